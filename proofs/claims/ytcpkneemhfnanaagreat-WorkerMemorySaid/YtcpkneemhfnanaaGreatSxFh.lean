import Derived.Test.YtcpkneemhfnanaaGreatSxFc
/- What is nearest: shifts, exact numbers; the order of floats by their values. Conditions: none. -/
namespace Go.Sx
set_option linter.unusedSimpArgs false
set_option linter.unusedVariables false

/-! ### values at the least place -/
def valF (s : Bool) (m : Nat) (i : Int) : Int := if s then -((m * 2 ^ (i + 1074).toNat : Nat) : Int) else ((m * 2 ^ (i + 1074).toNat : Nat) : Int)
theorem cmp_mul {a b : Int} {k : Nat} : compare (a * ((2 ^ k : Nat) : Int)) (b * ((2 ^ k : Nat) : Int)) = compare a b := by
  have hk : (0 : Int) < ((2 ^ k : Nat) : Int) := by have := Nat.two_pow_pos k; omega
  simp only [compare, compareOfLessAndEq]
  have h1 : (a * ((2 ^ k : Nat) : Int) < b * ((2 ^ k : Nat) : Int)) ↔ a < b := Int.mul_lt_mul_right hk
  have h2 : (a * ((2 ^ k : Nat) : Int) = b * ((2 ^ k : Nat) : Int)) ↔ a = b := Int.mul_eq_mul_right_iff (by omega)
  simp only [h1, h2]
theorem order_val {s t : Bool} {m n : Nat} {i j : Int} (hi : -1074 ≤ i) (hj : -1074 ≤ j) : (Ieee.Datum.number s m i).order (.number t n j) = some (compare (valF s m i) (valF t n j)) := by
  simp only [Ieee.Datum.order, signed_eq]
  obtain ⟨k, hk⟩ : ∃ k : Nat, min i j + 1074 = k := ⟨(min i j + 1074).toNat, by omega⟩
  have e1 : (i + 1074).toNat = (i - min i j).toNat + k := by omega
  have e2 : (j + 1074).toNat = (j - min i j).toNat + k := by omega
  unfold valF
  rw [e1, e2, Nat.pow_add, Nat.pow_add, ← Nat.mul_assoc, ← Nat.mul_assoc]
  have key : ∀ (s : Bool) (x : Nat), (if s then -((x * 2 ^ k : Nat) : Int) else ((x * 2 ^ k : Nat) : Int)) = (if s then -(x : Int) else (x : Int)) * ((2 ^ k : Nat) : Int) := by
    intro s x
    cases s
    · simp
    · simp only [if_true, Int.neg_mul, Int.natCast_mul]
  rw [key, key, cmp_mul]
end Go.Sx
/- Whole parts, floors and scalings by a float's bits. Conditions: none. -/
namespace Go.Sx
set_option linter.unusedSimpArgs false
set_option linter.unusedVariables false

def expN (x : Nat) : Nat := x / 4503599627370496 % 2048
def fracN (x : Nat) : Nat := x % 4503599627370496
theorem rung_eq (x : Nat) : x % 9223372036854775808 = expN x * 4503599627370496 + fracN x := by unfold expN fracN; omega
theorem expN_lt (x : Nat) : expN x < 2048 := by unfold expN; omega
theorem fracN_lt (x : Nat) : fracN x < 4503599627370496 := by unfold fracN; omega
theorem nan_iff (x : Nat) : nanB x = decide (expN x = 2047 ∧ fracN x ≠ 0) := by
  have h1 := expN_lt x; have h2 := fracN_lt x
  unfold nanB; rw [decide_eq_decide, rung_eq]; omega
theorem inf_iff (x : Nat) : infB x = decide (expN x = 2047 ∧ fracN x = 0) := by
  have h1 := expN_lt x; have h2 := fracN_lt x
  unfold infB; rw [decide_eq_decide, rung_eq]; omega
theorem read_norm {x : Nat} (h0 : 1 ≤ expN x) (h1 : expN x < 2047) : Ieee.double.read x = .number (negB x) (4503599627370496 + fracN x) ((expN x : Int) - 1075) := by
  have h2 := fracN_lt x
  rw [read_eq, rung_eq, if_neg (by omega), if_pos (by omega)]
  have e1 : (expN x * 4503599627370496 + fracN x) % 4503599627370496 = fracN x := by omega
  have e2 : (expN x * 4503599627370496 + fracN x) / 4503599627370496 = expN x := by omega
  rw [e1, e2]
  congr 1
  omega
theorem read_sub {x : Nat} (h0 : expN x = 0) : Ieee.double.read x = .number (negB x) (fracN x) (-1074) := by
  have h2 := fracN_lt x
  rw [read_eq, rung_eq, h0, if_pos (by omega)]
  congr 1; omega

/-- the number that is read: its digits, its place -/
def magN (x : Nat) : Nat := if expN x = 0 then fracN x else 4503599627370496 + fracN x
def plN (x : Nat) : Int := if expN x = 0 then -1074 else (expN x : Int) - 1075
theorem read_mag {x : Nat} (h : expN x < 2047) : Ieee.double.read x = .number (negB x) (magN x) (plN x) := by
  unfold magN plN
  by_cases h0 : expN x = 0
  · rw [if_pos h0, if_pos h0]; exact read_sub h0
  · rw [if_neg h0, if_neg h0]; exact read_norm (by omega) h
theorem magN_lt (x : Nat) : magN x < 9007199254740992 := by unfold magN; have := fracN_lt x; split <;> omega
theorem plN_ge (x : Nat) : -1074 ≤ plN x := by unfold plN; split <;> omega

theorem valN {x : Nat} (h : expN x < 2047) : valF (negB x) (magN x) (plN x) = if negB x then -((magN x * 2 ^ (expN x - 1) : Nat) : Int) else ((magN x * 2 ^ (expN x - 1) : Nat) : Int) := by
  unfold valF
  have : (plN x + 1074).toNat = expN x - 1 := by unfold plN; split <;> omega
  rw [this]

end Go.Sx
/- Floors and scalings. Conditions: none. -/
namespace Go.Sx
set_option linter.unusedSimpArgs false
set_option linter.unusedVariables false

theorem negB_iff {x : Nat} (hx : x < 18446744073709551616) : negB x = decide (9223372036854775808 ≤ x) := by
  unfold negB
  rw [Bool.eq_iff_iff, beq_iff_eq, decide_eq_true_eq]
  omega
end Go.Sx
namespace Go.Sx
set_option linter.unusedSimpArgs false
set_option linter.unusedVariables false
/-! ### scalings -/
end Go.Sx
/- The scaling of the program is the scaling to the nearest. Conditions: none. -/
namespace Go.Sx
set_option linter.unusedSimpArgs false
set_option linter.unusedVariables false

end Go.Sx
/- The order of floats is that of their bits. Conditions: none. -/
namespace Go.Sx
set_option linter.unusedSimpArgs false
set_option linter.unusedVariables false

def rungN (x : Nat) : Nat := x % 9223372036854775808
/-- a float's place among those of its sign, with its sign -/
def sideR (x : Nat) : Int := if negB x then -(rungN x : Int) else (rungN x : Int)
def weightN (x : Nat) : Nat := magN x * 2 ^ (expN x - 1)

theorem weight_lt {x y : Nat} (h : rungN x < rungN y) : weightN x < weightN y := by
  have h' : expN x * 4503599627370496 + fracN x < expN y * 4503599627370496 + fracN y := by
    have hx : rungN x = _ := rung_eq x
    have hy : rungN y = _ := rung_eq y
    rw [hx, hy] at h; exact h
  have fx := fracN_lt x; have fy := fracN_lt y
  unfold weightN
  by_cases he : expN x = expN y
  · rw [he]
    apply Nat.mul_lt_mul_of_pos_right _ (Nat.two_pow_pos _)
    unfold magN
    rw [he] at h' ⊢
    split <;> omega
  · have hlt : expN x < expN y := by omega
    have hy : 4503599627370496 ≤ magN y := by unfold magN; rw [if_neg (by omega)]; omega
    have h2 : 4503599627370496 * 2 ^ (expN y - 1) ≤ magN y * 2 ^ (expN y - 1) := Nat.mul_le_mul_right _ hy
    by_cases h0 : expN x = 0
    · rw [h0]
      have hx : magN x = fracN x := by unfold magN; rw [if_pos h0]
      have hp : 1 ≤ 2 ^ (expN y - 1) := Nat.two_pow_pos _
      have h3 : 4503599627370496 * 1 ≤ 4503599627370496 * 2 ^ (expN y - 1) := Nat.mul_le_mul_left _ hp
      show magN x * 1 < _
      omega
    · have h3 : 2 ^ (expN x - 1) * 2 ≤ 2 ^ (expN y - 1) := by
        rw [← Nat.pow_succ]; exact Nat.pow_le_pow_right (by decide) (by omega)
      have hm := magN_lt x
      have hp := Nat.two_pow_pos (expN x - 1)
      have h4 : magN x * 2 ^ (expN x - 1) < 9007199254740992 * 2 ^ (expN x - 1) := Nat.mul_lt_mul_of_pos_right hm hp
      have h5 : 4503599627370496 * (2 ^ (expN x - 1) * 2) ≤ 4503599627370496 * 2 ^ (expN y - 1) := Nat.mul_le_mul_left _ h3
      generalize 2 ^ (expN x - 1) = A at h4 h5 ⊢
      omega
theorem weight_iff {x y : Nat} : (weightN x < weightN y ↔ rungN x < rungN y) ∧ (weightN x = weightN y ↔ rungN x = rungN y) := by
  have eq_of : rungN x = rungN y → weightN x = weightN y := by
    intro h
    have hx : rungN x = _ := rung_eq x
    have hy : rungN y = _ := rung_eq y
    have fx := fracN_lt x; have fy := fracN_lt y
    have e1 : expN x = expN y := by omega
    have e2 : fracN x = fracN y := by omega
    unfold weightN magN; rw [e1, e2]
  rcases Nat.lt_trichotomy (rungN x) (rungN y) with h | h | h
  · have := weight_lt h
    exact ⟨⟨fun _ => h, fun _ => this⟩, ⟨fun _ => by omega, fun _ => by omega⟩⟩
  · have := eq_of h
    exact ⟨⟨fun _ => by omega, fun _ => by omega⟩, ⟨fun _ => h, fun _ => this⟩⟩
  · have := weight_lt h
    exact ⟨⟨fun _ => by omega, fun _ => by omega⟩, ⟨fun _ => by omega, fun _ => by omega⟩⟩
theorem weight_zero {x : Nat} : weightN x = 0 ↔ rungN x = 0 := by
  have h0 : weightN 0 = 0 := by decide
  have h1 : rungN 0 = 0 := by decide
  have := (weight_iff (x := x) (y := 0)).2
  rw [h0, h1] at this; exact this
theorem cmp_sign {s t : Bool} {a b c d : Nat} (h1 : a < b ↔ c < d) (h2 : a = b ↔ c = d) (h3 : a = 0 ↔ c = 0) (h4 : b = 0 ↔ d = 0) :
    compare (if s then -(a : Int) else (a : Int)) (if t then -(b : Int) else (b : Int)) = compare (if s then -(c : Int) else (c : Int)) (if t then -(d : Int) else (d : Int)) := by
  simp only [compare, compareOfLessAndEq]
  cases s <;> cases t <;> simp only [if_true, Bool.false_eq_true, if_false]
  · have e1 : ((a : Int) < b) ↔ ((c : Int) < d) := by omega
    have e2 : ((a : Int) = b) ↔ ((c : Int) = d) := by omega
    simp only [e1, e2]
  · have e1 : ((a : Int) < -(b : Int)) ↔ ((c : Int) < -(d : Int)) := by omega
    have e2 : ((a : Int) = -(b : Int)) ↔ ((c : Int) = -(d : Int)) := by omega
    simp only [e1, e2]
  · have e1 : (-(a : Int) < (b : Int)) ↔ (-(c : Int) < (d : Int)) := by omega
    have e2 : (-(a : Int) = (b : Int)) ↔ (-(c : Int) = (d : Int)) := by omega
    simp only [e1, e2]
  · have e1 : (-(a : Int) < -(b : Int)) ↔ (-(c : Int) < -(d : Int)) := by omega
    have e2 : (-(a : Int) = -(b : Int)) ↔ (-(c : Int) = -(d : Int)) := by omega
    simp only [e1, e2]
theorem sideR_lt {x : Nat} (h : rungN x ≤ 9218868437227405312) : -9218868437227405312 ≤ sideR x ∧ sideR x ≤ 9218868437227405312 := by unfold sideR; split <;> omega
theorem ord_rung {x y : Nat} (hx : nanB x = false) (hy : nanB y = false) : ordB x y = some (compare (sideR x) (sideR y)) := by
  have num : ∀ z, nanB z = false → infB z = false → expN z < 2047 ∧ rungN z < 9218868437227405312 := by
    intro z h1 h2
    have := expN_lt z; have hf := fracN_lt z
    have hz : rungN z = _ := rung_eq z
    rw [nan_iff, decide_eq_false_iff_not] at h1
    rw [inf_iff, decide_eq_false_iff_not] at h2
    have : expN z ≠ 2047 := fun e => by
      by_cases hf0 : fracN z = 0
      · exact h2 ⟨e, hf0⟩
      · exact h1 ⟨e, hf0⟩
    omega
  have inf : ∀ z, infB z = true → rungN z = 9218868437227405312 := by
    intro z h
    simp only [infB, decide_eq_true_eq] at h; exact h
  show (Ieee.double.read x).order (Ieee.double.read y) = _
  cases ix : infB x
  · obtain ⟨ex, rx⟩ := num x hx ix
    rw [read_mag ex]
    cases iy : infB y
    · obtain ⟨ey, ry⟩ := num y hy iy
      rw [read_mag ey, order_val (plN_ge x) (plN_ge y), valN ex, valN ey]
      congr 1
      exact cmp_sign weight_iff.1 weight_iff.2 weight_zero weight_zero
    · rw [read_inf iy]
      have e := inf y iy
      show some (if negB y then Ordering.gt else Ordering.lt) = _
      congr 1
      unfold sideR
      rw [e]
      cases negB y
      · simp only [Bool.false_eq_true, if_false]
        simp only [compare, compareOfLessAndEq]
        rw [if_pos (by split <;> omega)]
      · simp only [if_true]
        simp only [compare, compareOfLessAndEq]
        rw [if_neg (by split <;> omega), if_neg (by split <;> omega)]
  · rw [read_inf ix]
    have e := inf x ix
    cases iy : infB y
    · obtain ⟨ey, ry⟩ := num y hy iy
      rw [read_mag ey]
      show some (if negB x then Ordering.lt else Ordering.gt) = _
      congr 1
      unfold sideR
      rw [e]
      cases negB x
      · simp only [Bool.false_eq_true, if_false]
        simp only [compare, compareOfLessAndEq]
        rw [if_neg (by split <;> omega), if_neg (by split <;> omega)]
      · simp only [if_true]
        simp only [compare, compareOfLessAndEq]
        rw [if_pos (by split <;> omega)]
    · rw [read_inf iy]
      have e2 := inf y iy
      show some (compare (negB y).toNat (negB x).toNat) = _
      congr 1
      unfold sideR
      rw [e, e2]
      cases negB x <;> cases negB y <;> decide

/-- the place in the row of all floats -/
def rankN (x : Nat) : Int := if nanB x then 9223372036854775807 else if 9223372036854775808 ≤ x then -1 - ((x : Int) - 9223372036854775808) else x
def ordN (a b : Nat) : Int := if rankN a < rankN b then -1 else if rankN b < rankN a then 1 else 0
theorem rank_num {x : Nat} (hx : x < 18446744073709551616) (h : nanB x = false) : rankN x = sideR x - (if negB x then 1 else 0) ∧ rungN x ≤ 9218868437227405312 := by
  have hn := negB_iff hx
  simp only [nanB, decide_eq_false_iff_not] at h
  unfold rankN sideR rungN
  rw [show nanB x = false from by simp only [nanB, decide_eq_false_iff_not]; exact h, if_neg (by decide), hn]
  by_cases hs : 9223372036854775808 ≤ x
  · rw [if_pos hs, decide_eq_true hs, if_pos rfl, if_pos rfl]; omega
  · rw [if_neg hs, decide_eq_false hs, if_neg (by decide), if_neg (by decide)]; omega
theorem rank_lt_nan {x : Nat} (hx : x < 18446744073709551616) (h : nanB x = false) : rankN x < 9223372036854775807 := by
  obtain ⟨h1, h2⟩ := rank_num hx h
  have := sideR_lt h2
  rw [h1]; split <;> omega
theorem rank_nan {x : Nat} (h : nanB x = true) : rankN x = 9223372036854775807 := by unfold rankN; rw [if_pos h]
/-- the order in Go's words: by value, and of two noughts by sign -/
theorem ordN_go {a b : Nat} (ha : a < 18446744073709551616) (hb : b < 18446744073709551616) (na : nanB a = false) (nb : nanB b = false) :
    ordN a b = if ordB a b == some .lt then -1 else if ordB a b == some .gt then 1 else if (if negB a then (0 : Int) else 1) < (if negB b then 0 else 1) then -1 else if (if negB a then (0 : Int) else 1) > (if negB b then 0 else 1) then 1 else 0 := by
  obtain ⟨h1, r1⟩ := rank_num ha na
  obtain ⟨h2, r2⟩ := rank_num hb nb
  obtain ⟨c1, c2, c3⟩ := cmp_int (a := sideR a) (b := sideR b)
  have e : ∀ (a b : Ordering), (some a == some b) = (a == b) := fun a b => by cases a <;> cases b <;> rfl
  rw [ord_rung na nb, e, e, c1, c3]
  have s1 : negB a = true → sideR a ≤ 0 := fun h => by unfold sideR; rw [if_pos h]; omega
  have s1' : negB a = false → 0 ≤ sideR a := fun h => by unfold sideR; rw [if_neg (by rw [h]; decide)]; omega
  have s2 : negB b = true → sideR b ≤ 0 := fun h => by unfold sideR; rw [if_pos h]; omega
  have s2' : negB b = false → 0 ≤ sideR b := fun h => by unfold sideR; rw [if_neg (by rw [h]; decide)]; omega
  unfold ordN
  rw [h1, h2]
  simp only [decide_eq_true_eq]
  cases hna : negB a <;> cases hnb : negB b <;> simp only [hna, hnb, if_true, Bool.false_eq_true, if_false, forall_const] at * <;> repeat' split
  all_goals omega
end Go.Sx
