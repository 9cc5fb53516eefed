/- What is nearest: shifts, exact numbers; the order of floats by their values. Conditions: none. -/
import Derived.Test.YtcpkneemhfnanaaGreatSxFb
namespace Go.Sx
set_option linter.unusedSimpArgs false
set_option linter.unusedVariables false
def cutE (n d : Nat) : Nat := n / 2 ^ d + (decide (2 ^ d < 2 * (n % 2 ^ d)) || (2 ^ d == 2 * (n % 2 ^ d) && n / 2 ^ d % 2 == 1)).toNat
theorem Aae (s : Bool) (n d : Nat) : Ieee.Toward.even.cut s n d = cutE n d := by
 unfold Ieee.Toward.cut cutE
 simp only [Nat.shiftLeft_eq, Nat.one_mul]
 by_cases h : d ≤ n.log2 + 2
 ·rw [Nat.min_eq_left h]
 ·rw [Nat.min_eq_right (by omega)]
  have h1 : n < 2 ^ (n.log2 + 1) := Nat.lt_log2_self
  have e2 : 2 ^ (n.log2 + 2) = 2 * 2 ^ (n.log2 + 1) := by rw [Nat.pow_succ 2 (n.log2 + 1), Nat.mul_comm]
  have h3 : 2 ^ (n.log2 + 2) ≤ 2 ^ d := Nat.pow_le_pow_right (by decide) (by omega)
  generalize 2 ^ (n.log2 + 1) = A at h1 e2
  generalize 2 ^ (n.log2 + 2) = G at e2 h3 ⊢
  generalize 2 ^ d = D at h3 ⊢
  rw [Nat.div_eq_of_lt (by omega : n < G), Nat.div_eq_of_lt (by omega : n < D), Nat.mod_eq_of_lt (by omega : n < G), Nat.mod_eq_of_lt (by omega : n < D)]
  have a1 : ¬ G < 2 * n := by omega
  have a2 : ¬ D < 2 * n := by omega
  simp [a1, a2]
theorem Jt (n : Nat) : cutE n 0 = n := by
 unfold cutE
 simp [Nat.mod_one]
theorem On (n d c : Nat) : cutE (n * 2 ^ c) (d + c) = cutE n d := by
 unfold cutE
 rw [Nat.pow_add]
 have hc := Nat.two_pow_pos c
 have e1 : n * 2 ^ c / (2 ^ d * 2 ^ c) = n / 2 ^ d := Nat.mul_div_mul_right _ _ hc
 have e2 : n * 2 ^ c % (2 ^ d * 2 ^ c) = n % 2 ^ d * 2 ^ c := Nat.mul_mod_mul_right _ _ _
 rw [e1, e2]
 have e3 : decide (2 ^ d * 2 ^ c < 2 * (n % 2 ^ d * 2 ^ c)) = decide (2 ^ d < 2 * (n % 2 ^ d)) := by
  rw [← Nat.mul_assoc, decide_eq_decide]
  exact Nat.mul_lt_mul_right hc
 have e4 : (2 ^ d * 2 ^ c == 2 * (n % 2 ^ d * 2 ^ c)) = (2 ^ d == 2 * (n % 2 ^ d)) := by
  rw [← Nat.mul_assoc, Bool.eq_iff_iff, beq_iff_eq, beq_iff_eq]
  exact Nat.mul_left_inj (by omega)
 rw [e3, e4]
theorem Uz (n c d : Nat) (h : d ≤ c) : cutE (n * 2 ^ c) d = n * 2 ^ (c - d) := by
 have := On (n * 2 ^ (c - d)) 0 d
 rw [Nat.zero_add, Nat.mul_assoc, ← Nat.pow_add, show c - d + d = c from by omega, Jt] at this
 exact this
theorem U0 {m : Nat} (h : m ≠ 0) (c : Nat) : (m * 2 ^ c).log2 = m.log2 + c := by
 have h1 : 2 ^ m.log2 ≤ m := Nat.log2_self_le h
 have h2 : m < 2 ^ (m.log2 + 1) := Nat.lt_log2_self
 have hc := Nat.two_pow_pos c
 refine (Nat.log2_eq_iff (by have := Nat.mul_pos (Nat.pos_of_ne_zero h) hc; omega)).2 ⟨?_, ?_⟩
 ·rw [Nat.pow_add]; exact Nat.mul_le_mul_right _ h1
 ·rw [show m.log2 + c + 1 = (m.log2 + 1) + c from by omega, Nat.pow_add]; exact Nat.mul_lt_mul_of_pos_right h2 hc
def Cn (s : Bool) (m : Nat) (p : Int) : Nat := Ieee.double.nearest s m p
def M4 (m : Nat) (p : Int) : Int := max (p + m.log2 - 52) (-1074)
theorem Db (s : Bool) (r : Nat) : Ieee.double.word s r = if s then 9223372036854775808 + r else r := by unfold Ieee.Format.word; rw [Zy]
theorem Lg {s : Bool} {m : Nat} {p : Int} (h : m ≠ 0) : Cn s m p = Ieee.double.word s (min ((M4 m p + 1074).toNat * 4503599627370496 + cutE (m * 2 ^ (p - M4 m p).toNat) (M4 m p - p).toNat) 9218868437227405312) := by
 unfold Cn Ieee.Format.nearest
 rw [if_neg h]
 simp only [Ad9, Uw, Ru, Aae, Nat.shiftLeft_eq]
 have e : ((Ieee.double.fractionBits : Nat) : Int) = 52 := rfl
 rw [e]
 have e2 : ∀ z : Int, z - -1074 = z + 1074 := fun z => by omega
 rw [e2]
 rfl
theorem Gd (s : Bool) (p : Int) : Cn s 0 p = Ieee.double.word s 0 := by unfold Cn Ieee.Format.nearest; rw [if_pos rfl]
theorem C5 (s : Bool) (m : Nat) (p : Int) (c : Nat) : Cn s (m * 2 ^ c) (p - c) = Cn s m p := by
 by_cases h : m = 0
 ·subst h; rw [Nat.zero_mul, Gd, Gd]
 ·have hm : m * 2 ^ c ≠ 0 := by have := Nat.mul_pos (Nat.pos_of_ne_zero h) (Nat.two_pow_pos c); omega
  have hl : M4 (m * 2 ^ c) (p - c) = M4 m p := by unfold M4; rw [U0 h]; omega
  rw [Lg hm, Lg h, hl]
  generalize M4 m p = L
  have hk : cutE (m * 2 ^ c * 2 ^ (p - c - L).toNat) (L - (p - c)).toNat = cutE (m * 2 ^ (p - L).toNat) (L - p).toNat := by
   by_cases h1 : L ≤ p
   ·have e1 : (L - p).toNat = 0 := by omega
    rw [e1, Jt]
    by_cases h2 : L + c ≤ p
    ·have e2 : (L - (p - c)).toNat = 0 := by omega
     have e3 : (p - L).toNat = c + (p - c - L).toNat := by omega
     rw [e2, Jt, e3, Nat.pow_add, Nat.mul_assoc]
    ·have e2 : (p - c - L).toNat = 0 := by omega
     rw [e2, Nat.pow_zero, Nat.mul_one, Uz _ _ _ (by omega)]
     congr 2
     omega
   ·have e1 : (p - L).toNat = 0 := by omega
    have e2 : (p - c - L).toNat = 0 := by omega
    have e3 : (L - (p - c)).toNat = (L - p).toNat + c := by omega
    rw [e1, e2, e3, Nat.pow_zero, Nat.mul_one, Nat.mul_one, On]
  rw [hk]
theorem Ac5 {m : Nat} (h1 : 4503599627370496 ≤ m) (h2 : m < 9007199254740992) : m.log2 = 52 := (Nat.log2_eq_iff (by omega)).2 ⟨by simpa using h1, by simpa using h2⟩
theorem Fh {s : Bool} {m : Nat} {e : Int} (h1 : 4503599627370496 ≤ m) (h2 : m < 9007199254740992) : Cn s m (e - 1075) = Ieee.double.word s (if 2047 ≤ e then 9218868437227405312 else if 1 ≤ e then (e - 1).toNat * 4503599627370496 + m else cutE m (1 - e).toNat) := by
 rw [Lg (by omega)]
 unfold M4
 rw [Ac5 h1 h2]
 by_cases he : 1 ≤ e
 ·have hl : max (e - 1075 + ((52 : Nat) : Int) - 52) (-1074) = e - 1075 := by omega
  rw [hl]
  have e1 : (e - 1075 - (e - 1075)).toNat = 0 := by omega
  have e2 : (e - 1075 + 1074).toNat = (e - 1).toNat := by omega
  rw [e1, e2, Jt, Nat.pow_zero, Nat.mul_one]
  by_cases h3 : 2047 ≤ e
  ·rw [if_pos h3, Nat.min_eq_right (by omega)]
  ·rw [if_neg h3, if_pos he, Nat.min_eq_left (by omega)]
 ·have hl : max (e - 1075 + ((52 : Nat) : Int) - 52) (-1074) = -1074 := by omega
  rw [hl, if_neg (by omega), if_neg he]
  have e1 : (e - 1075 - -1074).toNat = 0 := by omega
  have e2 : (-1074 - (e - 1075)).toNat = (1 - e).toNat := by omega
  have e3 : ((-1074 : Int) + 1074).toNat = 0 := by decide
  rw [e1, e2, e3, Nat.pow_zero, Nat.mul_one, Nat.zero_mul, Nat.zero_add]
  congr 1
  refine Nat.min_eq_left ?_
  have : cutE m (1 - e).toNat ≤ m / 2 ^ (1 - e).toNat + 1 := by
   unfold cutE
   exact Nat.add_le_add_left (Bool.toNat_le _) _
  have h3 := Nat.div_le_self m (2 ^ (1 - e).toNat)
  omega
def valF (s : Bool) (m : Nat) (i : Int) : Int := if s then -((m * 2 ^ (i + 1074).toNat : Nat) : Int) else ((m * 2 ^ (i + 1074).toNat : Nat) : Int)
theorem Ac6 {a b : Int} {k : Nat} : compare (a * ((2 ^ k : Nat) : Int)) (b * ((2 ^ k : Nat) : Int)) = compare a b := by
 have hk : (0 : Int) < ((2 ^ k : Nat) : Int) := by have := Nat.two_pow_pos k; omega
 simp only [compare, compareOfLessAndEq]
 have h1 : (a * ((2 ^ k : Nat) : Int) < b * ((2 ^ k : Nat) : Int)) ↔ a < b := Int.mul_lt_mul_right hk
 have h2 : (a * ((2 ^ k : Nat) : Int) = b * ((2 ^ k : Nat) : Int)) ↔ a = b := Int.mul_eq_mul_right_iff (by omega)
 simp only [h1, h2]
theorem E3 {s t : Bool} {m n : Nat} {i j : Int} (hi : -1074 ≤ i) (hj : -1074 ≤ j) : (Ieee.Datum.number s m i).order (.number t n j) = some (compare (valF s m i) (valF t n j)) := by
 simp only [Ieee.Datum.order, Js]
 obtain ⟨k, hk⟩ : ∃ k : Nat, min i j + 1074 = k := ⟨(min i j + 1074).toNat, by omega⟩
 have e1 : (i + 1074).toNat = (i - min i j).toNat + k := by omega
 have e2 : (j + 1074).toNat = (j - min i j).toNat + k := by omega
 unfold valF
 rw [e1, e2, Nat.pow_add, Nat.pow_add, ← Nat.mul_assoc, ← Nat.mul_assoc]
 have key : ∀ (s : Bool) (x : Nat), (if s then -((x * 2 ^ k : Nat) : Int) else ((x * 2 ^ k : Nat) : Int)) = (if s then -(x : Int) else (x : Int)) * ((2 ^ k : Nat) : Int) := by
  intro s x
  cases s
  ·simp
  ·simp only [if_true, Int.neg_mul, Int.natCast_mul]
 rw [key, key, Ac6]
theorem L8 {s : Bool} {r : Nat} (h : r < 9223372036854775808) : Ieee.double.read (Ieee.double.word s r) = if r < 4503599627370496 then .number s r (-1074) else if r < 9218868437227405312 then .number s (4503599627370496 + r % 4503599627370496) (-1074 + (r / 4503599627370496 - 1 : Nat)) else if r = 9218868437227405312 then .infinity s else .nan s (r - 9218868437227405312) := by
 rw [Jr, Db]
 have h1 : (if s then 9223372036854775808 + r else r) % 9223372036854775808 = r := by cases s <;> simp <;> omega
 have h2 : negB (if s then 9223372036854775808 + r else r) = s := by
  unfold negB
  cases s
  ·simp only [Bool.false_eq_true, if_false]
   rw [Nat.div_eq_of_lt h]; rfl
  ·simp only [if_true]
   have : (9223372036854775808 + r) / 9223372036854775808 = 1 := by omega
   rw [this]; rfl
 rw [h1, h2]
theorem U1 {s : Bool} {k : Nat} (h0 : 0 < k) (h : k ≤ 9007199254740992) : ∃ M i, Ieee.double.read (Cn s k 0) = .number s M i ∧ -52 ≤ i ∧ i ≤ 1 ∧ M * 2 ^ (i + 52).toNat = k * 2 ^ 52 := by
 have hlog : k.log2 ≤ 53 := by
  have := Nat.log2_self_le (n := k) (by omega)
  rcases Nat.lt_or_ge 53 k.log2 with h' | h'
  ·have h2 : 2 ^ 54 ≤ 2 ^ k.log2 := Nat.pow_le_pow_right (by decide) h'
   omega
  ·exact h'
 have h1 := Nat.log2_self_le (n := k) (by omega)
 have h2 : k < 2 ^ (k.log2 + 1) := Nat.lt_log2_self
 by_cases h53 : k.log2 = 53
 ·rw [h53] at h1
  have hk : k = 9007199254740992 := by omega
  subst hk
  cases s
  ·exact ⟨4503599627370496, 1, by decide +kernel, by decide, by decide, by decide⟩
  ·exact ⟨4503599627370496, 1, by decide +kernel, by decide, by decide, by decide⟩
 obtain ⟨c, hc⟩ : ∃ c, c + k.log2 = 52 := ⟨52 - k.log2, by omega⟩
 have e : Cn s k 0 = Cn s (k * 2 ^ c) (0 - c) := (C5 s k 0 c).symm
 have hm1 : 4503599627370496 ≤ k * 2 ^ c := by
  have := Nat.mul_le_mul_right (2 ^ c) h1
  rw [← Nat.pow_add, show k.log2 + c = 52 from by omega] at this
  omega
 have hm2 : k * 2 ^ c < 9007199254740992 := by
  have := Nat.mul_lt_mul_of_pos_right h2 (Nat.two_pow_pos c)
  rw [← Nat.pow_add, show k.log2 + 1 + c = 53 from by omega] at this
  omega
 rw [e, show (0 - (c : Int)) = (1075 - (c : Int)) - 1075 from by omega, Fh hm1 hm2, if_neg (by omega), if_pos (by omega)]
 have ht : (1075 - (c : Int) - 1).toNat = 1074 - c := by omega
 rw [ht, L8 (by omega), if_neg (by omega), if_pos (by omega)]
 refine ⟨_, _, rfl, ?_, ?_, ?_⟩
 ·omega
 ·omega
 ·have e1 : ((1074 - c) * 4503599627370496 + k * 2 ^ c) % 4503599627370496 = k * 2 ^ c - 4503599627370496 := by omega
  have e2 : ((1074 - c) * 4503599627370496 + k * 2 ^ c) / 4503599627370496 - 1 = 1074 - c := by omega
  rw [e1, e2]
  have e3 : (-1074 + ((1074 - c : Nat) : Int) + 52).toNat = 52 - c := by omega
  rw [e3, show 4503599627370496 + (k * 2 ^ c - 4503599627370496) = k * 2 ^ c from by omega, Nat.mul_assoc, ← Nat.pow_add, show c + (52 - c) = 52 from by omega]
def expN (x : Nat) : Nat := x / 4503599627370496 % 2048
def Ap (x : Nat) : Nat := x % 4503599627370496
theorem Cw (x : Nat) : x % 9223372036854775808 = expN x * 4503599627370496 + Ap x := by unfold expN Ap; omega
theorem F0 (x : Nat) : expN x < 2048 := by unfold expN; omega
theorem B9 (x : Nat) : Ap x < 4503599627370496 := by unfold Ap; omega
theorem Er (x : Nat) : nanB x = decide (expN x = 2047 ∧ Ap x ≠ 0) := by
 have h1 := F0 x; have h2 := B9 x
 unfold nanB; rw [decide_eq_decide, Cw]; omega
theorem Gv (x : Nat) : infB x = decide (expN x = 2047 ∧ Ap x = 0) := by
 have h1 := F0 x; have h2 := B9 x
 unfold infB; rw [decide_eq_decide, Cw]; omega
theorem Xl {x : Nat} (h0 : 1 ≤ expN x) (h1 : expN x < 2047) : Ieee.double.read x = .number (negB x) (4503599627370496 + Ap x) ((expN x : Int) - 1075) := by
 have h2 := B9 x
 rw [Jr, Cw, if_neg (by omega), if_pos (by omega)]
 have e1 : (expN x * 4503599627370496 + Ap x) % 4503599627370496 = Ap x := by omega
 have e2 : (expN x * 4503599627370496 + Ap x) / 4503599627370496 = expN x := by omega
 rw [e1, e2]
 congr 1
 omega
theorem Aaf {x : Nat} (h0 : expN x = 0) : Ieee.double.read x = .number (negB x) (Ap x) (-1074) := by
 have h2 := B9 x
 rw [Jr, Cw, h0, if_pos (by omega)]
 congr 1; omega
def magN (x : Nat) : Nat := if expN x = 0 then Ap x else 4503599627370496 + Ap x
def plN (x : Nat) : Int := if expN x = 0 then -1074 else (expN x : Int) - 1075
theorem Es {x : Nat} (h : expN x < 2047) : Ieee.double.read x = .number (negB x) (magN x) (plN x) := by
 unfold magN plN
 by_cases h0 : expN x = 0
 ·rw [if_pos h0, if_pos h0]; exact Aaf h0
 ·rw [if_neg h0, if_neg h0]; exact Xl (by omega) h
theorem H1 (x : Nat) : magN x < 9007199254740992 := by unfold magN; have := B9 x; split <;> omega
theorem Iy (x : Nat) : -1074 ≤ plN x := by unfold plN; split <;> omega
def x85 : Nat := 1085
def Kc : Nat := 4503599627370496 * 2 ^ x85
theorem Xm : 0 < Kc := Nat.mul_pos (by decide) (Nat.two_pow_pos _)
theorem Ac7 : valF false 4503599627370496 11 = (Kc : Int) := by
 unfold valF
 rw [show ((11 : Int) + 1074).toNat = x85 from rfl, if_neg (by simp)]; rfl
theorem Ac8 : valF true 4503599627370496 11 = -(Kc : Int) := by
 unfold valF
 rw [show ((11 : Int) + 1074).toNat = x85 from rfl, if_pos rfl]; rfl
theorem Aeo {M : Nat} {e : Nat} (h2 : M < 9007199254740992) (he : e < 1086) : M * 2 ^ (e - 1) < Kc := by
 unfold Kc
 rcases Nat.eq_zero_or_pos e with rfl | hp
 ·have h3 : M * 2 ^ (0 - 1) = M := by simp
  rw [h3]
  have h4 : 2 ≤ 2 ^ x85 := Nat.pow_le_pow_right (show 0 < 2 by decide) (show 1 ≤ x85 by decide)
  calc M < 4503599627370496 * 2 := by omega
   _ ≤ _ := Nat.mul_le_mul_left _ h4
 ·have h3 : M * 2 ^ (e - 1) < 9007199254740992 * 2 ^ (e - 1) := Nat.mul_lt_mul_of_pos_right h2 (Nat.two_pow_pos _)
  have h4 : 9007199254740992 * 2 ^ (e - 1) = 4503599627370496 * 2 ^ e := by
   obtain ⟨k, rfl⟩ : ∃ k, e = k + 1 := ⟨e - 1, by omega⟩
   rw [Nat.add_sub_cancel, Nat.pow_succ]; omega
  have h5 : 4503599627370496 * 2 ^ e ≤ 4503599627370496 * 2 ^ x85 := Nat.mul_le_mul_left _ (Nat.pow_le_pow_right (by decide) (show e ≤ 1085 by omega))
  omega
theorem Aep {M : Nat} {e : Nat} (h1 : 4503599627370496 ≤ M) (he : 1086 ≤ e) : Kc ≤ M * 2 ^ (e - 1) :=
 Nat.mul_le_mul h1 (Nat.pow_le_pow_right (by decide) (show 1085 ≤ e - 1 by omega))
theorem valN {x : Nat} (h : expN x < 2047) : valF (negB x) (magN x) (plN x) = if negB x then -((magN x * 2 ^ (expN x - 1) : Nat) : Int) else ((magN x * 2 ^ (expN x - 1) : Nat) : Int) := by
 unfold valF
 have : (plN x + 1074).toNat = expN x - 1 := by unfold plN; split <;> omega
 rw [this]
def Dn (x : Nat) : Nat := if 1075 ≤ expN x then magN x * 2 ^ (expN x - 1075) else magN x / 2 ^ (-plN x).toNat
theorem M5 (x : Nat) : By x = if expN x = 2047 ∧ Ap x ≠ 0 then 0 else if 1086 ≤ expN x then (if negB x then -9223372036854775808 else 9223372036854775807) else if negB x then -(Dn x : Int) else (Dn x : Int) := by
 unfold By
 rw [Er]
 by_cases hn : expN x = 2047 ∧ Ap x ≠ 0
 ·rw [if_pos (by simpa using hn), if_pos hn]
 ·rw [if_neg (by simpa using hn), if_neg hn]
  by_cases hi : expN x = 2047
  ·have hinf : infB x = true := by rw [Gv]; simp only [decide_eq_true_eq]; exact ⟨hi, Decidable.byContradiction fun h => hn ⟨hi, h⟩⟩
   rw [if_pos (show 1086 ≤ expN x by omega)]
   unfold ordB Ieee.Format.order
   rw [Em hinf, Oj, Ol]
   cases negB x <;> simp [Ieee.Datum.order]
  ·have he := F0 x
   have hr := Es (x := x) (by omega)
   have hv := valN (x := x) (by omega)
   have ho1 : ordB x c63 = some (compare (valF (negB x) (magN x) (plN x)) (Kc : Int)) := by
    unfold ordB Ieee.Format.order
    rw [hr, Oj, E3 (Iy x) (by decide), Ac7]
   have ho2 : ordB x m63 = some (compare (valF (negB x) (magN x) (plN x)) (-(Kc : Int))) := by
    unfold ordB Ieee.Format.order
    rw [hr, Ol, E3 (Iy x) (by decide), Ac8]
   rw [ho1, ho2]
   simp only [Option.some_beq_some, Eo.1, Eo.2.1, Eo.2.2]
   have hm := H1 x
   by_cases hbig : 1086 ≤ expN x
   ·rw [if_pos hbig]
    have hM : 4503599627370496 ≤ magN x := by unfold magN; rw [if_neg (by omega)]; omega
    have hge := Aep hM hbig
    rw [hv]
    generalize magN x * 2 ^ (expN x - 1) = A at hge
    have hC := Xm
    generalize Kc = C at hge hC
    cases negB x
    ·simp only [Bool.false_eq_true, if_false]
     rw [if_pos (by simp only [Bool.or_eq_true, decide_eq_true_eq]; omega)]
    ·simp only [if_true]
     rw [if_neg (by simp only [Bool.or_eq_true, decide_eq_true_eq]; omega), if_pos (by simp only [Bool.or_eq_true, decide_eq_true_eq]; omega)]
   ·rw [if_neg hbig]
    have hlt := Aeo (M := magN x) hm (show expN x < 1086 by omega)
    have ht : En x = if negB x then -(Dn x : Int) else (Dn x : Int) := by
     unfold En
     rw [hr, L4]
     have : (magN x * 2 ^ (plN x).toNat) / 2 ^ (-plN x).toNat = Dn x := by
      unfold Dn
      by_cases h75 : 1075 ≤ expN x
      ·rw [if_pos h75]
       have e1 : (plN x).toNat = expN x - 1075 := by unfold plN; rw [if_neg (by omega)]; omega
       have e2 : (-plN x).toNat = 0 := by unfold plN; rw [if_neg (by omega)]; omega
       rw [e1, e2, Nat.pow_zero, Nat.div_one]
      ·rw [if_neg h75]
       have e1 : (plN x).toNat = 0 := by unfold plN; split <;> omega
       rw [e1, Nat.pow_zero, Nat.mul_one]
     rw [this]
    rw [hv]
    generalize magN x * 2 ^ (expN x - 1) = A at hlt
    generalize Kc = C at hlt
    rw [if_neg, if_neg, ht]
    ·simp only [Bool.or_eq_true, decide_eq_true_eq]; split <;> omega
    ·simp only [Bool.or_eq_true, decide_eq_true_eq]; split <;> omega
end Go.Sx
