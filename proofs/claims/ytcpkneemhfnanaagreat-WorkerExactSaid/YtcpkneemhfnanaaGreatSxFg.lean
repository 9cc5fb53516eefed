/- Floors and scalings. Conditions: none. -/
import Derived.Test.YtcpkneemhfnanaaGreatSxFe
namespace Go.Sx
set_option linter.unusedSimpArgs false
set_option linter.unusedVariables false
theorem Lh (s : Bool) (m : Nat) (p : Int) : nanB (Cn s m p) = false := by
 have key : ∀ r, r ≤ 9218868437227405312 → nanB (Ieee.double.word s r) = false := by
  intro r hr
  rw [Db]
  unfold nanB
  rw [decide_eq_false_iff_not]
  split <;> omega
 by_cases h : m = 0
 ·subst h; rw [Gd]; exact key 0 (by omega)
 ·rw [Lg h]; exact key _ (Nat.min_le_right _ _)
theorem Aag (n : Int) : numOf n = Cn (decide (n < 0)) n.natAbs 0 := rfl
theorem Ju {x : Nat} (hx : x < 18446744073709551616) : Ieee.double.word (negB x) (x % 9223372036854775808) = x := by
 rw [Db]
 unfold negB
 have : x / 9223372036854775808 < 2 := by omega
 rcases (show x / 9223372036854775808 = 0 ∨ x / 9223372036854775808 = 1 by omega) with h | h
 ·rw [h]; simp; omega
 ·rw [h]; simp; omega
theorem Iz {x : Nat} (hx : x < 18446744073709551616) : negB x = decide (9223372036854775808 ≤ x) := by
 unfold negB
 rw [Bool.eq_iff_iff, beq_iff_eq, decide_eq_true_eq]
 omega
theorem S5 (s : Bool) (n d : Nat) : Ieee.Toward.down.cut s n d = n / 2 ^ d + (s && n % 2 ^ d != 0).toNat := by
 unfold Ieee.Toward.cut
 simp only [Nat.shiftLeft_eq, Nat.one_mul]
 by_cases h : d ≤ n.log2 + 2
 ·rw [Nat.min_eq_left h]
 ·rw [Nat.min_eq_right (by omega)]
  have h1 : n < 2 ^ (n.log2 + 1) := Nat.lt_log2_self
  have h2 : n < 2 ^ (n.log2 + 2) := Nat.lt_of_lt_of_le h1 (Nat.pow_le_pow_right (by decide) (by omega))
  have h3 : n < 2 ^ d := Nat.lt_of_lt_of_le h2 (Nat.pow_le_pow_right (by decide) (by omega))
  rw [Nat.div_eq_of_lt h2, Nat.div_eq_of_lt h3, Nat.mod_eq_of_lt h2, Nat.mod_eq_of_lt h3]
theorem Xn {x : Nat} (hx : x < 18446744073709551616) (h0 : expN x ≠ 0) (h : expN x < 2047) : Cn (negB x) (magN x) (plN x) = x := by
 have hf := B9 x
 have hm : magN x = 4503599627370496 + Ap x := by unfold magN; rw [if_neg h0]
 have hp : plN x = (expN x : Int) - 1075 := by unfold plN; rw [if_neg h0]
 rw [hm, hp, Fh (by omega) (by omega), if_neg (by omega), if_pos (by omega)]
 have : ((expN x : Int) - 1).toNat * 4503599627370496 + (4503599627370496 + Ap x) = x % 9223372036854775808 := by rw [Cw]; omega
 rw [this]; exact Ju hx
theorem M6 {x : Nat} (hx : x < 18446744073709551616) (h : (expN x = 0 ∧ Ap x = 0) ∨ 1075 ≤ expN x) : Da x = Al x := by
 unfold Da
 cases hn : nanB x
 ·simp only [Bool.false_eq_true, if_false]
  rw [Dl hn]
  rw [Er] at hn
  simp only [decide_eq_false_iff_not] at hn
  by_cases hi : expN x = 2047
  ·have hinf : infB x = true := by rw [Gv]; simp only [decide_eq_true_eq]; exact ⟨hi, Decidable.byContradiction fun h => hn ⟨hi, h⟩⟩
   rw [Em hinf]
   show Al (Ieee.double.word (negB x) Ieee.double.infRung) = x
   have hr : x % 9223372036854775808 = 9218868437227405312 := by simp only [infB, decide_eq_true_eq] at hinf; exact hinf
   rw [Ru, ← hr, Ju hx, Dl]
   simp only [nanB, decide_eq_false_iff_not]; omega
  ·have he := F0 x
   rw [Es (by omega)]
   simp only [Ieee.Datum.integral, Nat.shiftLeft_eq, S5]
   show Al (Cn (negB x) _ 0) = x
   rw [Dl (Lh _ _ _)]
   rcases h with ⟨h0, h1⟩ | h75
   ·have hm : magN x = 0 := by unfold magN; rw [if_pos h0, h1]
    rw [hm]
    simp only [Nat.zero_mul, Nat.zero_div, Nat.zero_mod, Nat.zero_add]
    have : (negB x && (0 : Nat) != 0).toNat = 0 := by cases negB x <;> rfl
    rw [this, Gd]
    have hr : x % 9223372036854775808 = 0 := by rw [Cw, h0, h1]
    rw [← hr, Ju hx]
   ·have hp : plN x = ((expN x - 1075 : Nat) : Int) := by unfold plN; rw [if_neg (by omega)]; omega
    have e2 : (-plN x).toNat = 0 := by omega
    have e1 : (plN x).toNat = expN x - 1075 := by omega
    rw [e1, e2, Nat.pow_zero, Nat.div_one, Nat.mod_one]
    have : (negB x && (0 : Nat) != 0).toNat = 0 := by cases negB x <;> rfl
    rw [this, Nat.add_zero]
    have := C5 (negB x) (magN x) (plN x) (expN x - 1075)
    rw [hp, show (((expN x - 1075 : Nat) : Int) - ((expN x - 1075 : Nat) : Int)) = 0 from by omega] at this
    rw [this, ← hp]
    exact Xn hx (by omega) (by omega)
 ·simp only [if_true]; rw [E2 hn]
theorem Xo (k d : Nat) (h : d ≤ 1074) : ∀ r, (k * 2 ^ d + r) * 2 ^ (1074 - d) = k * 2 ^ (1074 - d + d) + r * 2 ^ (1074 - d) := by
 intro r
 rw [Nat.add_mul, Nat.mul_assoc, ← Nat.pow_add, Nat.add_comm d]
theorem U2 {x : Nat} (hx : x < 18446744073709551616) (h0 : ¬ (expN x = 0 ∧ Ap x = 0)) (h : expN x < 1075) :
  (ordB (numOf (By x)) x == some .gt) = (negB x && magN x % 2 ^ (-plN x).toNat != 0) ∧
  ((negB x && magN x % 2 ^ (-plN x).toNat != 0) = false → Da x = numOf (By x)) ∧
  ((negB x && magN x % 2 ^ (-plN x).toNat != 0) = true → Ieee.double.sub (numOf (By x)) 4607182418800017408 = some (Da x)) := by
 have hnn : nanB x = false := by rw [Er]; simp only [decide_eq_false_iff_not]; omega
 have hr := Es (x := x) (by omega)
 have hm := H1 x
 have hm0 : 0 < magN x := by unfold magN; split <;> omega
 obtain ⟨d, hd⟩ : ∃ d, d = (-plN x).toNat := ⟨_, rfl⟩
 have hpl : plN x = -(d : Int) ∧ d ≤ 1074 ∧ 1 ≤ d := by
  rw [hd]; unfold plN; split <;> omega
 rw [← hd]
 have hw : By x = if negB x then -((magN x / 2 ^ d : Nat) : Int) else ((magN x / 2 ^ d : Nat) : Int) := by
  rw [M5, if_neg (show ¬ (expN x = 2047 ∧ Ap x ≠ 0) by omega), if_neg (show ¬ 1086 ≤ expN x by omega)]
  unfold Dn
  rw [if_neg (show ¬ 1075 ≤ expN x by omega), ← hd]
 obtain ⟨k, hk⟩ : ∃ k, k = magN x / 2 ^ d := ⟨_, rfl⟩
 obtain ⟨r, hrr⟩ : ∃ r, r = magN x % 2 ^ d := ⟨_, rfl⟩
 rw [← hk] at hw
 rw [← hrr]
 have hsplit : magN x = k * 2 ^ d + r := by rw [hk, hrr, Nat.mul_comm]; exact (Nat.div_add_mod _ _).symm
 have hk53 : k < 9007199254740992 := by rw [hk]; exact Nat.lt_of_le_of_lt (Nat.div_le_self _ _) hm
 have hfl : Da x = Cn (negB x) (k + (negB x && r != 0).toNat) 0 := by
  unfold Da
  rw [hnn, hr]
  simp only [Bool.false_eq_true, if_false, Ieee.Datum.integral, Nat.shiftLeft_eq, S5]
  have e1 : (plN x).toNat = 0 := by omega
  have e2 : (-plN x).toNat = d := hd.symm
  rw [e1, e2, Nat.pow_zero, Nat.mul_one, ← hk, ← hrr]
  exact Dl (Lh _ _ _)
 have hnum : numOf (By x) = Cn (negB x && decide (0 < k)) k 0 := by
  rw [Aag, hw]
  cases negB x
  ·simp only [Bool.false_eq_true, if_false, Bool.false_and]
   rw [show decide ((k : Int) < 0) = false from by rw [decide_eq_false_iff_not]; omega]
   congr 1
  ·simp only [if_true, Bool.true_and]
   rw [show decide (-(k : Int) < 0) = decide (0 < k) from by rw [decide_eq_decide]; omega]
   congr 1
   omega
 -- the values
 have hvx : valF (negB x) (magN x) (plN x) = if negB x then -((k * 2 ^ (1074 - d + d) + r * 2 ^ (1074 - d) : Nat) : Int) else ((k * 2 ^ (1074 - d + d) + r * 2 ^ (1074 - d) : Nat) : Int) := by
  unfold valF
  have : (plN x + 1074).toNat = 1074 - d := by omega
  rw [this, hsplit, Xo k d hpl.2.1 r]
 have hord : ∃ M i, Ieee.double.read (numOf (By x)) = .number (negB x && decide (0 < k)) M i ∧ -1074 ≤ i ∧ i ≤ 1 ∧ valF (negB x && decide (0 < k)) M i = (if (negB x && decide (0 < k)) then -((k * 2 ^ (1074 - d + d) : Nat) : Int) else ((k * 2 ^ (1074 - d + d) : Nat) : Int)) ∧ (0 < k → -52 ≤ i ∧ M * 2 ^ (i + 52).toNat = k * 2 ^ 52) ∧ (k = 0 → M = 0 ∧ i = -1074) := by
  rw [hnum]
  by_cases hk0 : 0 < k
  ·obtain ⟨M, i, h1, h2, h3, h4⟩ := U1 (s := negB x && decide (0 < k)) hk0 (by omega)
   refine ⟨M, i, h1, by omega, h3, ?_, fun _ => ⟨h2, h4⟩, fun h => by omega⟩
   unfold valF
   obtain ⟨z, hz⟩ : ∃ z : Nat, z = 1022 := ⟨_, rfl⟩
   have e1 : (i + 1074).toNat = (i + 52).toNat + z := by omega
   have e2 : 1074 - d + d = 52 + z := by omega
   rw [e1, e2, Nat.pow_add, ← Nat.mul_assoc, h4, Nat.pow_add, Nat.mul_assoc]
  ·obtain rfl : k = 0 := by omega
   refine ⟨0, -1074, ?_, by omega, by omega, ?_, fun h => by omega, fun _ => ⟨rfl, rfl⟩⟩
   ·rw [Gd, L8 (by omega)]; rfl
   ·unfold valF; rw [Nat.zero_mul, Nat.zero_mul]
 obtain ⟨M, i, hr2, hi1, hi2, hv2, hM, hM0⟩ := hord
 have hgt : (ordB (numOf (By x)) x == some .gt) = (negB x && r != 0) := by
  unfold ordB Ieee.Format.order
  rw [hr2, hr, E3 hi1 (Iy x), hv2, hvx]
  simp only [Option.some_beq_some, Eo.1]
  have hp1 := Nat.two_pow_pos (1074 - d)
  have hrp : r = 0 ↔ r * 2 ^ (1074 - d) = 0 := by
   constructor
   ·intro h; rw [h, Nat.zero_mul]
   ·intro h; exact (Nat.mul_eq_zero.1 h).resolve_right (by omega)
  have hkp : k = 0 ↔ k * 2 ^ (1074 - d + d) = 0 := by
   have := Nat.two_pow_pos (1074 - d + d)
   constructor
   ·intro h; rw [h, Nat.zero_mul]
   ·intro h; exact (Nat.mul_eq_zero.1 h).resolve_right (by omega)
  have hkr : k = 0 → r ≠ 0 := fun h1 h2 => by rw [h1, h2] at hsplit; omega
  generalize k * 2 ^ (1074 - d + d) = A at hkp ⊢
  generalize r * 2 ^ (1074 - d) = C at hrp ⊢
  rw [Bool.eq_iff_iff, decide_eq_true_eq]
  cases negB x
  ·simp only [Bool.false_eq_true, if_false, Bool.false_and]
   constructor
   ·intro h; omega
   ·intro h; cases h
  ·simp only [if_true, Bool.true_and, bne_iff_ne, ne_eq]
   by_cases hk0 : 0 < k
   ·simp only [hk0, decide_true, if_true]; omega
   ·simp only [hk0, decide_false, Bool.false_eq_true, if_false]; omega
 refine ⟨hgt, fun hb => ?_, fun hb => ?_⟩
 ·rw [hfl, hnum, hb]
  have : negB x = (negB x && decide (0 < k)) := by
   cases hs : negB x
   ·rfl
   ·rw [hs] at hb
    have hr0 : r = 0 := by simpa using hb
    have : 0 < k := by
     rcases Nat.eq_zero_or_pos k with h | h
     ·rw [h, hr0] at hsplit; omega
     ·exact h
    simp [this]
  rw [← this]; rfl
 ·have hs : negB x = true := by
   cases hs : negB x
   ·rw [hs] at hb; cases hb
   ·rfl
  rw [hfl, hb, hs]
  have hone : Ieee.double.read 4607182418800017408 = .number false 4503599627370496 (-52) := by decide +kernel
  unfold Ieee.Format.sub
  rw [hr2, hone, hs]
  simp only [Ieee.Datum.opposite, Ieee.Datum.sum, Option.map_some, Js, Bool.not_false, if_true, Bool.true_and]
  congr 1
  -- both at one place
  obtain ⟨c, hc⟩ : ∃ c : Nat, min i (-52) = -(c : Int) := ⟨(-(min i (-52))).toNat, by omega⟩
  rw [hc]
  have e1 : (-52 - -(c : Int)).toNat = c - 52 := by omega
  have hc52 : 52 ≤ c := by omega
  have e2 : M * 2 ^ (i - -(c : Int)).toNat = k * 2 ^ c := by
   by_cases hk0 : 0 < k
   ·obtain ⟨h1, h2⟩ := hM hk0
    have hcc : c = 52 := by omega
    subst hcc
    rw [show (i - -((52 : Nat) : Int)).toNat = (i + 52).toNat from by omega]; exact h2
   ·obtain ⟨rfl, -⟩ := hM0 (by omega)
    obtain rfl : k = 0 := by omega
    simp
  have e3 : 4503599627370496 * 2 ^ (c - 52) = 2 ^ c := by
   rw [show (4503599627370496 : Nat) = 2 ^ 52 from by decide, ← Nat.pow_add, show 52 + (c - 52) = c from by omega]
  rw [e1, e2, e3]
  have hcp := Nat.two_pow_pos c
  have e4 : ((if decide (0 < k) = true then -((k * 2 ^ c : Nat) : Int) else ((k * 2 ^ c : Nat) : Int)) + -((2 ^ c : Nat) : Int)) = -(((k + 1) * 2 ^ c : Nat) : Int) := by
   rw [Nat.add_mul, Nat.one_mul]
   by_cases hk0 : 0 < k
   ·simp only [hk0, decide_true, if_true]; omega
   ·obtain rfl : k = 0 := by omega
    simp
  rw [e4]
  have hpos : 0 < (k + 1) * 2 ^ c := Nat.mul_pos (by omega) hcp
  have := C5 true (k + 1) 0 c
  rw [show (0 - (c : Int)) = -(c : Int) from by omega] at this
  show Cn (if -(((k + 1) * 2 ^ c : Nat) : Int) = 0 then (decide (0 < k) && true) else decide (-(((k + 1) * 2 ^ c : Nat) : Int) < 0)) (-(((k + 1) * 2 ^ c : Nat) : Int)).natAbs (-(c : Int)) = Cn true (k + true.toNat) 0
  generalize (k + 1) * 2 ^ c = Q at hpos this ⊢
  rw [if_neg (by omega), show decide (-(Q : Int) < 0) = true from by rw [decide_eq_true_eq]; omega, show (-(Q : Int)).natAbs = Q from by omega, this]
  rfl
end Go.Sx
namespace Go.Sx
set_option linter.unusedSimpArgs false
set_option linter.unusedVariables false
def L9 (x : Nat) (n : Int) : Nat := if nanB x || infB x || decide (x % 9223372036854775808 = 0) then Al x else Cn (negB x) (magN x) (plN x + n)
theorem S6 {c y : Nat} {q i : Int} {s : Bool} {M : Nat} (hc : Ieee.double.read c = .number false 4503599627370496 q) (hy : Ieee.double.read y = .number s M i) : mulF c y = Cn s M (q + 52 + i) := by
 unfold mulF Ieee.Format.mul
 rw [hc, hy]
 simp only [Ieee.Datum.product, Option.map_some, Bool.false_xor]
 show Cn s (4503599627370496 * M) (q + i) = _
 have := C5 s M (q + 52 + i) 52
 rw [show q + 52 + i - ((52 : Nat) : Int) = q + i from by omega, show M * 2 ^ 52 = 4503599627370496 * M from by omega] at this
 exact this
theorem Xp {c y : Nat} {q i : Int} {s : Bool} {M : Nat} (hc : Ieee.double.read c = .number false 4503599627370496 q) (hy : Ieee.double.read y = .number s M i) : mulF y c = Cn s M (q + 52 + i) := by
 unfold mulF Ieee.Format.mul
 rw [hc, hy]
 simp only [Ieee.Datum.product, Option.map_some, Bool.xor_false]
 show Cn s (M * 4503599627370496) (i + q) = _
 have := C5 s M (q + 52 + i) 52
 rw [show q + 52 + i - ((52 : Nat) : Int) = i + q from by omega, show M * 2 ^ 52 = M * 4503599627370496 from by omega] at this
 exact this
theorem Aah : Ieee.double.read 4607182418800017408 = .number false 4503599627370496 (-52) := by decide +kernel
theorem Aai : Ieee.double.read 4368491638549381120 = .number false 4503599627370496 (-105) := by decide +kernel
theorem Aaj : Ieee.double.read 4841369599423283200 = .number false 4503599627370496 0 := by decide +kernel
theorem Aak : Ieee.double.read 4503599627370496 = .number false 4503599627370496 (-1074) := by decide +kernel
theorem Aal : Ieee.double.read 9218868437227405311 = .number false 9007199254740991 971 := by decide +kernel
theorem Xq : Ieee.double.read 0 = .number false 0 (-1074) := by decide +kernel
theorem Qk {s : Bool} {E M : Nat} (h1 : 1 ≤ E) (h2 : E ≤ 2046) (h3 : 4503599627370496 ≤ M) (h4 : M < 9007199254740992) :
  ∃ y, y = Ieee.double.word s ((E - 1) * 4503599627370496 + M) ∧ y < 18446744073709551616 ∧ negB y = s ∧ expN y = E ∧ Ap y = M - 4503599627370496 ∧ Ieee.double.read y = .number s M ((E : Int) - 1075) ∧ (y : Int) = (if s then 9223372036854775808 else 0) + (E : Int) * 4503599627370496 + ((M : Int) - 4503599627370496) := by
 refine ⟨_, rfl, ?_, ?_, ?_, ?_, ?_, ?_⟩
 ·rw [Db]; split <;> omega
 ·rw [Db, Iz (by split <;> omega)]; cases s <;> simp <;> omega
 ·rw [Db]; unfold expN; split <;> omega
 ·rw [Db]; unfold Ap; split <;> omega
 ·rw [L8 (by omega), if_neg (by omega), if_pos (by omega)]
  have e1 : ((E - 1) * 4503599627370496 + M) % 4503599627370496 = M - 4503599627370496 := by omega
  have e2 : ((E - 1) * 4503599627370496 + M) / 4503599627370496 - 1 = E - 1 := by omega
  rw [e1, e2, show 4503599627370496 + (M - 4503599627370496) = M from by omega, show (-1074 : Int) + ((E - 1 : Nat) : Int) = (E : Int) - 1075 from by omega]
 ·rw [Db]; cases s <;> simp <;> omega
theorem Ac9 {a : Nat} (ha : a < 4096) : Go.bits .and .i64 (IntKind.i64.wrap (a : Int)) 2047 = ((a % 2048 : Nat) : Int) := by
 have hw : IntKind.i64.wrap (a : Int) = (a : Int) := by rw [IntKind.wrap_i64]; omega
 rw [hw]
 have h := (bits_nat .i64 63 (by decide) (fun n h0 h1 => by rw [IntKind.wrap_i64]; omega) a 2047 (by omega) (by decide)).1
 rw [show (2047 : Int) = ((2047 : Nat) : Int) from rfl, h, show (2047 : Nat) = 2 ^ 11 - 1 from by decide, Nat.and_two_pow_sub_one_eq_mod]
theorem Ae6 {y : Nat} (hy : y < 18446744073709551616) : Go.bits .andNot .u64 (y : Int) 9218868437227405312 = ((y / 9223372036854775808 * 9223372036854775808 + y % 4503599627370496 : Nat) : Int) := by
 rw [u64_andNot _ _ (by omega) (by omega) (by decide) (by decide)]
 have e1 : (18446744073709551615 : Nat) - (9218868437227405312 : Int).toNat = 9223372036854775808 ||| 4503599627370495 := by decide
 rw [e1, Int.toNat_natCast, Nat.and_or_distrib_left, Wc hy, show (4503599627370495 : Nat) = 2 ^ 52 - 1 from by decide, Nat.and_two_pow_sub_one_eq_mod]
 rw [nat_join 63 _ _ (by omega) (by omega)]
theorem orE {y a : Nat} {t : Nat} (hy : y < 18446744073709551616) (ht : t ≤ 2046) (ha : (a : Int) = (y / 9223372036854775808 * 9223372036854775808 + y % 4503599627370496 : Nat)) : Go.bits .or .u64 (a : Int) ((t : Int) * 4503599627370496) = ((y / 9223372036854775808 * 9223372036854775808 + t * 4503599627370496 + y % 4503599627370496 : Nat) : Int) := by
 have ha' : a = y / 9223372036854775808 * 9223372036854775808 + y % 4503599627370496 := by exact_mod_cast ha
 have e : ((t : Int) * 4503599627370496) = ((t * 4503599627370496 : Nat) : Int) := by omega
 rw [e, u64_or_nat _ _ (by omega) (by omega), ha']
 congr 1
 have h1 : y / 9223372036854775808 * 9223372036854775808 + y % 4503599627370496 = (y / 9223372036854775808 * 9223372036854775808) ||| (y % 4503599627370496) := (nat_join 63 _ _ (by omega) (by omega)).symm
 rw [h1, Nat.or_assoc, Nat.or_comm (y % 4503599627370496), nat_join 52 (t * 4503599627370496) _ (by omega) (by omega), nat_join 63 _ _ (by omega) (by omega)]
 omega
end Go.Sx
namespace Go.Sx
set_option linter.unusedSimpArgs false
set_option linter.unusedVariables false
theorem Ql {m d : Nat} (h : m < 9007199254740992) (hd : 54 ≤ d) : cutE m d = 0 := by
 have h1 : (2 : Nat) ^ 54 ≤ 2 ^ d := Nat.pow_le_pow_right (by decide) hd
 have h2 : (2 : Nat) ^ 54 = 18014398509481984 := by decide
 unfold cutE
 generalize (2 : Nat) ^ d = q at h1
 rw [h2] at h1
 rw [Nat.div_eq_of_lt (by omega), Nat.mod_eq_of_lt (by omega), decide_eq_false (by omega), show (q == 2 * m) = false from by rw [beq_eq_false_iff_ne]; omega]
 rfl
theorem S7 {y M : Nat} {s : Bool} {p : Int} (hy : Ieee.double.read y = .number s M p) (hp : -1074 ≤ p) : (ordB y 0 == some .eq) = decide (M = 0) ∧ (ordB y 0 == some .lt) = (decide (M ≠ 0) && s) ∧ (ordB y 0 == some .gt) = (decide (M ≠ 0) && !s) := by
 have h : ordB y 0 = some (compare (valF s M p) 0) := by
  show (Ieee.double.read y).order (Ieee.double.read 0) = _
  rw [hy, Xq, E3 hp (by decide)]
  simp only [valF, Nat.zero_mul]; rfl
 rw [h]
 have hv : valF s M p = if s then -((M * 2 ^ (p + 1074).toNat : Nat) : Int) else ((M * 2 ^ (p + 1074).toNat : Nat) : Int) := rfl
 rw [hv]
 have hz : (M * 2 ^ (p + 1074).toNat = 0) ↔ M = 0 := by
  rw [Nat.mul_eq_zero]
  constructor
  ·rintro (h | h)
   ·exact h
   ·exact absurd h (Nat.ne_of_gt (Nat.two_pow_pos _))
  ·exact fun h => .inl h
 generalize M * 2 ^ (p + 1074).toNat = V at hz
 obtain ⟨c1, c2, c3⟩ := Eo (a := if s then -(V : Int) else (V : Int)) (b := 0)
 have e : ∀ (a b : Ordering), (some a == some b) = (a == b) := fun a b => by cases a <;> cases b <;> rfl
 rw [e, e, e, c1, c2, c3]
 by_cases hm : M = 0
 ·have hV : V = 0 := hz.2 hm
  rw [hV]; cases s <;> simp [hm]
 ·have hV : V ≠ 0 := fun h => hm (hz.1 h)
  have hp : 0 < V := Nat.pos_of_ne_zero hV
  cases s
  ·simp [hm, hV]; omega
  ·simp [hm, hV]; omega
theorem Rz (x : Nat) : expN (x % 9223372036854775808) = expN x ∧ Ap (x % 9223372036854775808) = Ap x ∧ negB (x % 9223372036854775808) = false := by
 refine ⟨?_, ?_, ?_⟩
 ·unfold expN; omega
 ·unfold Ap; omega
 ·unfold negB
  have : x % 9223372036854775808 / 9223372036854775808 = 0 := by omega
  rw [this]; rfl
theorem Wh (x : Nat) : magN (x % 9223372036854775808) = magN x ∧ plN (x % 9223372036854775808) = plN x := by
 obtain ⟨h1, h2, _⟩ := Rz x
 unfold magN plN; rw [h1, h2]; exact ⟨rfl, rfl⟩
def Wi : Nat := 2045
def maxV : Nat := 9007199254740991 * 2 ^ Wi
theorem Ada {x : Nat} (h : expN x < 2047) : (ordB (x % 9223372036854775808) 9218868437227405311 == some .gt) = false := by
 obtain ⟨h1, h2, h3⟩ := Rz x
 obtain ⟨h4, h5⟩ := Wh x
 have hr := Es (x := x % 9223372036854775808) (by omega)
 rw [h3, h4, h5] at hr
 have ho : ordB (x % 9223372036854775808) 9218868437227405311 = some (compare (valF false (magN x) (plN x)) (valF false 9007199254740991 971)) := by
  show (Ieee.double.read (x % 9223372036854775808)).order (Ieee.double.read 9218868437227405311) = _
  rw [hr, Aal, E3 (Iy x) (by decide)]
 rw [ho]
 have hm := H1 x
 have hp : (plN x + 1074).toNat ≤ Wi := by unfold plN Wi; split <;> omega
 have hle : magN x * 2 ^ (plN x + 1074).toNat ≤ maxV := Nat.mul_le_mul (by omega) (Nat.pow_le_pow_right (by decide) hp)
 have hv : valF false 9007199254740991 971 = (maxV : Int) := by
  unfold valF maxV; rw [if_neg (by decide), show ((971 : Int) + 1074).toNat = Wi from by decide]
 have hv2 : valF false (magN x) (plN x) = ((magN x * 2 ^ (plN x + 1074).toNat : Nat) : Int) := rfl
 rw [hv, hv2]
 obtain ⟨c1, c2, c3⟩ := Eo (a := ((magN x * 2 ^ (plN x + 1074).toNat : Nat) : Int)) (b := (maxV : Int))
 have e : ∀ (a b : Ordering), (some a == some b) = (a == b) := fun a b => by cases a <;> cases b <;> rfl
 rw [e, c1, decide_eq_false]
 omega
theorem Adb {x : Nat} (h : expN x < 2047) : (ordB (x % 9223372036854775808) 4503599627370496 == some .lt) = decide (expN x = 0) := by
 obtain ⟨h1, h2, h3⟩ := Rz x
 obtain ⟨h4, h5⟩ := Wh x
 have hr := Es (x := x % 9223372036854775808) (by omega)
 rw [h3, h4, h5] at hr
 have ho : ordB (x % 9223372036854775808) 4503599627370496 = some (compare (valF false (magN x) (plN x)) (valF false 4503599627370496 (-1074))) := by
  show (Ieee.double.read (x % 9223372036854775808)).order (Ieee.double.read 4503599627370496) = _
  rw [hr, Aak, E3 (Iy x) (by decide)]
 rw [ho]
 have hv : valF false 4503599627370496 (-1074) = (4503599627370496 : Int) := by decide
 have hv2 : valF false (magN x) (plN x) = ((magN x * 2 ^ (plN x + 1074).toNat : Nat) : Int) := rfl
 rw [hv, hv2]
 obtain ⟨c1, c2, c3⟩ := Eo (a := ((magN x * 2 ^ (plN x + 1074).toNat : Nat) : Int)) (b := (4503599627370496 : Int))
 have e : ∀ (a b : Ordering), (some a == some b) = (a == b) := fun a b => by cases a <;> cases b <;> rfl
 rw [e, c3]
 by_cases hE : expN x = 0
 ·have hp : plN x = -1074 := by unfold plN; rw [if_pos hE]
  have hm : magN x = Ap x := by unfold magN; rw [if_pos hE]
  have := B9 x
  rw [hp, hm, decide_eq_true hE, decide_eq_true]
  show ((Ap x * 1 : Nat) : Int) < _
  omega
 ·have hm : 4503599627370496 ≤ magN x := by unfold magN; rw [if_neg hE]; omega
  have hq : 1 ≤ 2 ^ (plN x + 1074).toNat := Nat.two_pow_pos _
  have := Nat.mul_le_mul hm hq
  rw [decide_eq_false hE, decide_eq_false]
  omega
def Qm (fr : Nat) (n15 : Int) : Nat :=
 let n21 := Go.bits .and .i64 (IntKind.i64.wrap (Int.fdiv (fr : Int) (2 ^ (min (52 : Int).toNat (IntKind.bits .u64))))) 2047
 let n23 := IntKind.i64.wrap (n15 + IntKind.i64.wrap (n21 - 1023))
 if n23 < -1075 then Ep 0 fr
 else if n23 > 1023 then (if ordB fr 0 == some .lt then 18442240474082181120 else 9218868437227405312)
 else if n23 < -1022 then mulF 4368491638549381120 (Go.bits .or .u64 (Go.bits .andNot .u64 (fr : Int) 9218868437227405312) (IntKind.u64.wrap ((IntKind.u64.wrap (IntKind.i64.wrap (IntKind.i64.wrap (n23 + 53) + 1023))) * 2 ^ (min (52 : Int).toNat (IntKind.bits .u64))))).toNat
 else mulF 4607182418800017408 (Go.bits .or .u64 (Go.bits .andNot .u64 (fr : Int) 9218868437227405312) (IntKind.u64.wrap ((IntKind.u64.wrap (IntKind.i64.wrap (n23 + 1023))) * 2 ^ (min (52 : Int).toNat (IntKind.bits .u64))))).toNat
theorem U3 (x : Nat) (exp : Int) : Gb x exp = if ordB x 0 == some .eq then x else if ordB (x % 9223372036854775808) 9218868437227405311 == some .gt then x else if nanB x then x else Qm (Dy x).1 (IntKind.i64.wrap (exp + (Dy x).2)) := rfl
theorem Adc {s : Bool} {E M t y : Nat} (h1 : 1 ≤ E) (h2 : E ≤ 2046) (h3 : 4503599627370496 ≤ M) (h4 : M < 9007199254740992) (ht : 1 ≤ t) (ht2 : t ≤ 2046) (hy : y = Ieee.double.word s ((E - 1) * 4503599627370496 + M)) {c : Int} (hc : c = t) :
  Ieee.double.read (Go.bits .or .u64 (Go.bits .andNot .u64 (y : Int) 9218868437227405312) (IntKind.u64.wrap (IntKind.u64.wrap c * 2 ^ (min (52 : Int).toNat (IntKind.bits .u64))))).toNat = .number s M ((t : Int) - 1075) := by
 have hyl : y < 18446744073709551616 := by rw [hy, Db]; split <;> omega
 rw [Ae6 hyl]
 have e1 : IntKind.u64.wrap (IntKind.u64.wrap c * 2 ^ (min (52 : Int).toNat (IntKind.bits .u64))) = (t : Int) * 4503599627370496 := by
  rw [hc, show (2 : Int) ^ (min (52 : Int).toNat (IntKind.bits .u64)) = 4503599627370496 from by decide, IntKind.wrap_u64, IntKind.wrap_u64]; omega
 rw [e1, orE hyl ht2 rfl, Int.toNat_natCast]
 have e2 : y / 9223372036854775808 * 9223372036854775808 + t * 4503599627370496 + y % 4503599627370496 = Ieee.double.word s ((t - 1) * 4503599627370496 + M) := by
  rw [hy, Db, Db]; cases s <;> simp <;> omega
 rw [e2]
 obtain ⟨y', hy', _, _, _, _, hr, _⟩ := Qk (s := s) (E := t) (M := M) ht ht2 h3 h4
 rw [← hy']; exact hr
theorem Wj {s : Bool} {E M fr : Nat} {n : Int} (h1 : 1 ≤ E) (h2 : E ≤ 2046) (h3 : 4503599627370496 ≤ M) (h4 : M < 9007199254740992) (hfr : fr = Ieee.double.word s ((E - 1) * 4503599627370496 + M)) (hn : -6000 ≤ n ∧ n ≤ 6000) :
  Qm fr n = Cn s M (n + E - 1075) := by
 obtain ⟨y, hy, hyl, hs, hE, hf, hr, hyi⟩ := Qk (s := s) (E := E) (M := M) h1 h2 h3 h4
 have hyf : fr = y := by rw [hfr, hy]
 have hdiv : Int.fdiv (fr : Int) (2 ^ (min (52 : Int).toNat (IntKind.bits .u64))) = ((fr / 4503599627370496 : Nat) : Int) := by
  rw [show (2 : Int) ^ (min (52 : Int).toNat (IntKind.bits .u64)) = ((4503599627370496 : Nat) : Int) from by decide]
  rw [Int.fdiv_eq_ediv_of_nonneg _ (by omega)]; rfl
 have h21 : Go.bits .and .i64 (IntKind.i64.wrap (Int.fdiv (fr : Int) (2 ^ (min (52 : Int).toNat (IntKind.bits .u64))))) 2047 = (E : Int) := by
  rw [hdiv, Ac9 (by omega)]
  rw [hyf, ← hE]; rfl
 have h23 : IntKind.i64.wrap (n + IntKind.i64.wrap (Go.bits .and .i64 (IntKind.i64.wrap (Int.fdiv (fr : Int) (2 ^ (min (52 : Int).toNat (IntKind.bits .u64))))) 2047 - 1023)) = n + E - 1023 := by
  rw [h21, IntKind.wrap_i64, IntKind.wrap_i64]; omega
 unfold Qm
 simp only [h23]
 rw [Fh h3 h4]
 by_cases c1 : n + E - 1023 < -1075
 ·rw [if_pos c1, if_neg (by omega), if_neg (by omega), Ql h4 (by omega)]
  unfold Ep
  rw [hfr, Db, Db]; cases s <;> simp <;> omega
 rw [if_neg c1]
 by_cases c2 : n + E - 1023 > 1023
 ·rw [if_pos c2, if_pos (show 2047 ≤ n + (E : Int) by omega)]
  have := (S7 (y := fr) (by rw [hyf]; exact hr) (by omega)).2.1
  rw [this, decide_eq_true (show M ≠ 0 by omega), Bool.true_and, Db]
 rw [if_neg c2, if_neg (show ¬2047 ≤ n + (E : Int) by omega)]
 have last : ∀ t : Nat, 1 ≤ t → t ≤ 2046 → ∀ (c : Int), c = t → Ieee.double.read (Go.bits .or .u64 (Go.bits .andNot .u64 (fr : Int) 9218868437227405312) (IntKind.u64.wrap (IntKind.u64.wrap c * 2 ^ (min (52 : Int).toNat (IntKind.bits .u64))))).toNat = .number s M ((t : Int) - 1075) := fun t ht ht2 c hc => Adc h1 h2 h3 h4 ht ht2 hfr hc
 by_cases c3 : n + E - 1023 < -1022
 ·rw [if_pos c3]
  have hr2 := last (n + E + 53).toNat (by omega) (by omega) (IntKind.i64.wrap (IntKind.i64.wrap (n + E - 1023 + 53) + 1023)) (by rw [IntKind.wrap_i64, IntKind.wrap_i64]; omega)
  rw [S6 Aai hr2]
  rw [show (-105 : Int) + 52 + (((n + E + 53).toNat : Int) - 1075) = (n + E) - 1075 from by omega, Fh h3 h4, if_neg (show ¬2047 ≤ n + (E : Int) by omega)]
 ·rw [if_neg c3]
  have hr2 := last (n + E).toNat (by omega) (by omega) (IntKind.i64.wrap (n + E - 1023 + 1023)) (by rw [IntKind.wrap_i64]; omega)
  rw [S6 Aah hr2]
  rw [show (-52 : Int) + 52 + (((n + E).toNat : Int) - 1075) = (n + E) - 1075 from by omega, Fh h3 h4, if_neg (show ¬2047 ≤ n + (E : Int) by omega)]
theorem Add {m : Nat} (h0 : 0 < m) (h : m < 4503599627370496) : ∃ j, 1 ≤ j ∧ j ≤ 52 ∧ 4503599627370496 ≤ m * 2 ^ j ∧ m * 2 ^ j < 9007199254740992 := by
 have h1 := Nat.lt_log2_self (n := m)
 have h2 := Nat.log2_self_le (n := m) (by omega)
 have h3 : m.log2 < 52 := (Nat.log2_lt (by omega)).2 (by simpa using h)
 refine ⟨52 - m.log2, by omega, by omega, ?_, ?_⟩
 ·have := Nat.mul_le_mul_right (2 ^ (52 - m.log2)) h2
  rw [← Nat.pow_add, show m.log2 + (52 - m.log2) = 52 from by omega] at this
  simpa using this
 ·have := Nat.mul_lt_mul_of_pos_right h1 (Nat.two_pow_pos (52 - m.log2))
  rw [← Nat.pow_add, show m.log2 + 1 + (52 - m.log2) = 53 from by omega] at this
  simpa using this
theorem Qn (n : Int) : -5000 ≤ G5 n ∧ G5 n ≤ 5000 := by unfold G5; repeat' split <;> try omega
theorem I0 {x : Nat} {n : Int} (h : (nanB x || infB x || decide (x % 9223372036854775808 = 0)) = true) : L9 x n = Al x := by unfold L9; rw [if_pos h]
theorem Oo {x : Nat} {n : Int} (h : (nanB x || infB x || decide (x % 9223372036854775808 = 0)) = false) : L9 x n = Cn (negB x) (magN x) (plN x + n) := by
 unfold L9; rw [if_neg (by rw [h]; decide)]
theorem Xr {x : Nat} (hx : x < 18446744073709551616) (n : Int) : Iw x n = L9 x (G5 n) := by
 have hk := Qn n
 unfold Iw
 generalize G5 n = k at hk
 rw [U3]
 by_cases hE : expN x < 2047
 ·have hnan : nanB x = false := by rw [Er, decide_eq_false_iff_not]; omega
  have hinf : infB x = false := by rw [Gv, decide_eq_false_iff_not]; omega
  have hr := Es hE
  obtain ⟨z1, z2, z3⟩ := S7 hr (Iy x)
  rw [z1]
  have hrung := Cw x
  by_cases hz : magN x = 0
  ·rw [decide_eq_true hz, if_pos rfl]
   have h0 : x % 9223372036854775808 = 0 := by
    unfold magN at hz
    split at hz
    ·omega
    ·omega
   rw [I0 (by rw [decide_eq_true h0, Bool.or_true])]
  ·rw [decide_eq_false hz, if_neg (by decide), Ada hE, if_neg (by decide), hnan, if_neg (by decide)]
   have h0 : x % 9223372036854775808 ≠ 0 := by
    intro h0
    apply hz
    unfold magN
    rw [if_pos (by omega)]; omega
   rw [Oo (by rw [hnan, hinf, decide_eq_false h0]; rfl)]
   have done : Qm (Dy x).1 (IntKind.i64.wrap (k + (Dy x).2)) = Cn (negB x) (magN x) (plN x + k) := by
    unfold Dy
    rw [Adb hE]
    by_cases he : expN x = 0
    ·rw [decide_eq_true he, if_pos rfl]
     have hm : magN x = Ap x := by unfold magN; rw [if_pos he]
     have hp : plN x = -1074 := by unfold plN; rw [if_pos he]
     obtain ⟨j, hj1, hj2, hj3, hj4⟩ := Add (m := magN x) (by omega) (by rw [hm]; exact B9 x)
     have e1 : mulF x 4841369599423283200 = Ieee.double.word (negB x) ((53 - j - 1) * 4503599627370496 + magN x * 2 ^ j) := by
      rw [Xp Aaj hr, hp]
      have := C5 (negB x) (magN x) (0 + 52 + -1074) j
      rw [← this, show (0 : Int) + 52 + -1074 - (j : Int) = ((53 - j : Nat) : Int) - 1075 from by omega, Fh hj3 hj4, if_neg (by omega), if_pos (by omega), show (((53 - j : Nat) : Int) - 1).toNat = 53 - j - 1 from by omega]
     show Qm (mulF x 4841369599423283200) (IntKind.i64.wrap (k + -52)) = _
     rw [Wj (E := 53 - j) (by omega) (by omega) hj3 hj4 e1 (by rw [IntKind.wrap_i64]; omega)]
     have := C5 (negB x) (magN x) (plN x + k) j
     rw [← this, hp]
     rw [show IntKind.i64.wrap (k + -52) + ((53 - j : Nat) : Int) - 1075 = -1074 + k - (j : Int) from by rw [IntKind.wrap_i64]; omega]
    ·rw [decide_eq_false he, if_neg (by decide)]
     have hm : magN x = 4503599627370496 + Ap x := by unfold magN; rw [if_neg he]
     have hp : plN x = (expN x : Int) - 1075 := by unfold plN; rw [if_neg he]
     have hf := B9 x
     show Qm x (IntKind.i64.wrap (k + 0)) = _
     rw [Wj (s := negB x) (E := expN x) (M := magN x) (by omega) (by omega) (by omega) (by omega) ?_ (by rw [IntKind.wrap_i64]; omega)]
     ·rw [hp, show IntKind.i64.wrap (k + 0) + (expN x : Int) - 1075 = (expN x : Int) - 1075 + k from by rw [IntKind.wrap_i64]; omega]
     ·rw [hm, show (expN x - 1) * 4503599627370496 + (4503599627370496 + Ap x) = x % 9223372036854775808 from by omega]
      exact (Ju hx).symm
   rw [done]
   exact Dl (Lh _ _ _)
 ·have hE' : expN x = 2047 := by have := F0 x; omega
  have hrung := Cw x
  have hf := B9 x
  have hsp : (nanB x || infB x || decide (x % 9223372036854775808 = 0)) = true := by
   rw [Er, Gv]
   by_cases hf0 : Ap x = 0
   ·rw [decide_eq_true (show expN x = 2047 ∧ Ap x = 0 from ⟨hE', hf0⟩)]; simp
   ·rw [decide_eq_true (show expN x = 2047 ∧ Ap x ≠ 0 from ⟨hE', hf0⟩)]; simp
  rw [I0 hsp]
  by_cases hn : nanB x = true
  ·have e1 := (Rv (y := 0) hn).1
   rw [e1, if_neg (by decide), hn]
   simp
  ·have hn' : nanB x = false := by simpa using hn
   have hinf : infB x = true := by
    rw [Gv, decide_eq_true_eq]
    rw [Er, decide_eq_false_iff_not] at hn'
    exact ⟨hE', Decidable.byContradiction fun h => hn' ⟨hE', h⟩⟩
   rw [Z4 hinf]
   split
   ·rfl
   ·rw [if_pos (by rfl)]
end Go.Sx
