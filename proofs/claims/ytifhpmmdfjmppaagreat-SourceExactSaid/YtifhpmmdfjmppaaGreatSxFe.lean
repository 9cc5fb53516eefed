/- Whole parts, floors and scalings by a float's bits. Conditions: none. -/
import Derived.Test.YtifhpmmdfjmppaaGreatSxFd
namespace Go.Sx
set_option linter.unusedSimpArgs false
set_option linter.unusedVariables false

def expN (x : Nat) : Nat := x / 4503599627370496 % 2048
def fracN (x : Nat) : Nat := x % 4503599627370496
theorem rung_eq (x : Nat) : x % 9223372036854775808 = expN x * 4503599627370496 + fracN x := by unfold expN fracN; omega
theorem expN_lt (x : Nat) : expN x < 2048 := by unfold expN; omega
theorem fracN_lt (x : Nat) : fracN x < 4503599627370496 := by unfold fracN; omega
theorem nan_iff (x : Nat) : nanB x = decide (expN x = 2047 ∧ fracN x ≠ 0) := by
  have h1 := expN_lt x; have h2 := fracN_lt x
  unfold nanB; rw [decide_eq_decide, rung_eq]; omega
theorem inf_iff (x : Nat) : infB x = decide (expN x = 2047 ∧ fracN x = 0) := by
  have h1 := expN_lt x; have h2 := fracN_lt x
  unfold infB; rw [decide_eq_decide, rung_eq]; omega
theorem read_norm {x : Nat} (h0 : 1 ≤ expN x) (h1 : expN x < 2047) : Ieee.double.read x = .number (negB x) (4503599627370496 + fracN x) ((expN x : Int) - 1075) := by
  have h2 := fracN_lt x
  rw [read_eq, rung_eq, if_neg (by omega), if_pos (by omega)]
  have e1 : (expN x * 4503599627370496 + fracN x) % 4503599627370496 = fracN x := by omega
  have e2 : (expN x * 4503599627370496 + fracN x) / 4503599627370496 = expN x := by omega
  rw [e1, e2]
  congr 1
  omega
theorem read_sub {x : Nat} (h0 : expN x = 0) : Ieee.double.read x = .number (negB x) (fracN x) (-1074) := by
  have h2 := fracN_lt x
  rw [read_eq, rung_eq, h0, if_pos (by omega)]
  congr 1; omega

/-- the number that is read: its digits, its place -/
def magN (x : Nat) : Nat := if expN x = 0 then fracN x else 4503599627370496 + fracN x
def plN (x : Nat) : Int := if expN x = 0 then -1074 else (expN x : Int) - 1075
theorem read_mag {x : Nat} (h : expN x < 2047) : Ieee.double.read x = .number (negB x) (magN x) (plN x) := by
  unfold magN plN
  by_cases h0 : expN x = 0
  · rw [if_pos h0, if_pos h0]; exact read_sub h0
  · rw [if_neg h0, if_neg h0]; exact read_norm (by omega) h
theorem magN_lt (x : Nat) : magN x < 9007199254740992 := by unfold magN; have := fracN_lt x; split <;> omega
theorem plN_ge (x : Nat) : -1074 ≤ plN x := by unfold plN; split <;> omega

def x85 : Nat := 1085
def big63 : Nat := 4503599627370496 * 2 ^ x85
theorem big63_pos : 0 < big63 := Nat.mul_pos (by decide) (Nat.two_pow_pos _)
theorem val_c63 : valF false 4503599627370496 11 = (big63 : Int) := by
  unfold valF
  rw [show ((11 : Int) + 1074).toNat = x85 from rfl, if_neg (by simp)]; rfl
theorem val_m63 : valF true 4503599627370496 11 = -(big63 : Int) := by
  unfold valF
  rw [show ((11 : Int) + 1074).toNat = x85 from rfl, if_pos rfl]; rfl
theorem val_lt {M : Nat} {e : Nat} (h2 : M < 9007199254740992) (he : e < 1086) : M * 2 ^ (e - 1) < big63 := by
  unfold big63
  rcases Nat.eq_zero_or_pos e with rfl | hp
  · have h3 : M * 2 ^ (0 - 1) = M := by simp
    rw [h3]
    have h4 : 2 ≤ 2 ^ x85 := Nat.pow_le_pow_right (show 0 < 2 by decide) (show 1 ≤ x85 by decide)
    calc M < 4503599627370496 * 2 := by omega
      _ ≤ _ := Nat.mul_le_mul_left _ h4
  · have h3 : M * 2 ^ (e - 1) < 9007199254740992 * 2 ^ (e - 1) := Nat.mul_lt_mul_of_pos_right h2 (Nat.two_pow_pos _)
    have h4 : 9007199254740992 * 2 ^ (e - 1) = 4503599627370496 * 2 ^ e := by
      obtain ⟨k, rfl⟩ : ∃ k, e = k + 1 := ⟨e - 1, by omega⟩
      rw [Nat.add_sub_cancel, Nat.pow_succ]; omega
    have h5 : 4503599627370496 * 2 ^ e ≤ 4503599627370496 * 2 ^ x85 := Nat.mul_le_mul_left _ (Nat.pow_le_pow_right (by decide) (show e ≤ 1085 by omega))
    omega
theorem val_ge {M : Nat} {e : Nat} (h1 : 4503599627370496 ≤ M) (he : 1086 ≤ e) : big63 ≤ M * 2 ^ (e - 1) :=
  Nat.mul_le_mul h1 (Nat.pow_le_pow_right (by decide) (show 1085 ≤ e - 1 by omega))

theorem valN {x : Nat} (h : expN x < 2047) : valF (negB x) (magN x) (plN x) = if negB x then -((magN x * 2 ^ (expN x - 1) : Nat) : Int) else ((magN x * 2 ^ (expN x - 1) : Nat) : Int) := by
  unfold valF
  have : (plN x + 1074).toNat = expN x - 1 := by unfold plN; split <;> omega
  rw [this]

/-- the whole part's size -/
def wholeN (x : Nat) : Nat := if 1075 ≤ expN x then magN x * 2 ^ (expN x - 1075) else magN x / 2 ^ (-plN x).toNat
theorem wholeF_bits (x : Nat) : wholeF x = if expN x = 2047 ∧ fracN x ≠ 0 then 0 else if 1086 ≤ expN x then (if negB x then -9223372036854775808 else 9223372036854775807) else if negB x then -(wholeN x : Int) else (wholeN x : Int) := by
  unfold wholeF
  rw [nan_iff]
  by_cases hn : expN x = 2047 ∧ fracN x ≠ 0
  · rw [if_pos (by simpa using hn), if_pos hn]
  · rw [if_neg (by simpa using hn), if_neg hn]
    by_cases hi : expN x = 2047
    · have hinf : infB x = true := by rw [inf_iff]; simp only [decide_eq_true_eq]; exact ⟨hi, Decidable.byContradiction fun h => hn ⟨hi, h⟩⟩
      rw [if_pos (show 1086 ≤ expN x by omega)]
      unfold ordB Ieee.Format.order
      rw [read_inf hinf, read_c63, read_m63]
      cases negB x <;> simp [Ieee.Datum.order]
    · have he := expN_lt x
      have hr := read_mag (x := x) (by omega)
      have hv := valN (x := x) (by omega)
      have ho1 : ordB x c63 = some (compare (valF (negB x) (magN x) (plN x)) (big63 : Int)) := by
        unfold ordB Ieee.Format.order
        rw [hr, read_c63, order_val (plN_ge x) (by decide), val_c63]
      have ho2 : ordB x m63 = some (compare (valF (negB x) (magN x) (plN x)) (-(big63 : Int))) := by
        unfold ordB Ieee.Format.order
        rw [hr, read_m63, order_val (plN_ge x) (by decide), val_m63]
      rw [ho1, ho2]
      simp only [Option.some_beq_some, cmp_int.1, cmp_int.2.1, cmp_int.2.2]
      have hm := magN_lt x
      by_cases hbig : 1086 ≤ expN x
      · rw [if_pos hbig]
        have hM : 4503599627370496 ≤ magN x := by unfold magN; rw [if_neg (by omega)]; omega
        have hge := val_ge hM hbig
        rw [hv]
        generalize magN x * 2 ^ (expN x - 1) = A at hge
        have hC := big63_pos
        generalize big63 = C at hge hC
        cases negB x
        · simp only [Bool.false_eq_true, if_false]
          rw [if_pos (by simp only [Bool.or_eq_true, decide_eq_true_eq]; omega)]
        · simp only [if_true]
          rw [if_neg (by simp only [Bool.or_eq_true, decide_eq_true_eq]; omega), if_pos (by simp only [Bool.or_eq_true, decide_eq_true_eq]; omega)]
      · rw [if_neg hbig]
        have hlt := val_lt (M := magN x) hm (show expN x < 1086 by omega)
        have ht : truncF x = if negB x then -(wholeN x : Int) else (wholeN x : Int) := by
          unfold truncF
          rw [hr, toInt_num]
          have : (magN x * 2 ^ (plN x).toNat) / 2 ^ (-plN x).toNat = wholeN x := by
            unfold wholeN
            by_cases h75 : 1075 ≤ expN x
            · rw [if_pos h75]
              have e1 : (plN x).toNat = expN x - 1075 := by unfold plN; rw [if_neg (by omega)]; omega
              have e2 : (-plN x).toNat = 0 := by unfold plN; rw [if_neg (by omega)]; omega
              rw [e1, e2, Nat.pow_zero, Nat.div_one]
            · rw [if_neg h75]
              have e1 : (plN x).toNat = 0 := by unfold plN; split <;> omega
              rw [e1, Nat.pow_zero, Nat.mul_one]
          rw [this]
        rw [hv]
        generalize magN x * 2 ^ (expN x - 1) = A at hlt
        generalize big63 = C at hlt
        rw [if_neg, if_neg, ht]
        · simp only [Bool.or_eq_true, decide_eq_true_eq]; split <;> omega
        · simp only [Bool.or_eq_true, decide_eq_true_eq]; split <;> omega
end Go.Sx
