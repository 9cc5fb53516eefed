/- What the reference's Take hands back. Conditions: none. -/
import Derived.Test.YteakjjbajjkloaaProg
import Derived.Test.YteakjjbajjkloaaBytesE
import Derived.Test.YteakjjbajjkloaaSxO
namespace Go.Proofs.Yteakjjbajjkloaa
open Go.Sx
set_option maxRecDepth 100000
set_option linter.unusedVariables false
set_option linter.unusedSimpArgs false
/- reprise/repriseref02.Take -/
def sx36 (b : Option Addr) (b_n b_c : Nat) (R : Ending → World → Prop) (w : World) : Prop :=
  ∃ (I1 : Int → Int → World → Prop) (m1 : Int → Int → World → Nat), I1 0 0 w ∧ ∀ (n2 : Int) (n3 : Int) (w4 : World), I1 n2 n3 w4 → (((decide (n3 < ((b_n : Nat) : Int))) = true → (((n3 == 9) = true → withSome b (fun d5 => (0
    ≤ n3 ∧ n3 < (b_n : Nat)) ∧ ∃ (n6 : Int), w4.cell? (Addr.add d5 (n3.toNat * 1)) = some (.int .u8 n6) ∧ (((decide (n6 > 1)) = true → R (.returned (.tuple #[.int .u64 0, .int .i64 0, .int .i64 4])) w4) ∧ ((decide (n6 >
    1)) = false → withSome b (fun d7 => (0 ≤ n3 ∧ n3 < (b_n : Nat)) ∧ ∃ (n8 : Int), w4.cell? (Addr.add d7 (n3.toNat * 1)) = some (.int .u8 n8) ∧ (((128 : Int) = 0 → R (.panicked (divPanic Try.prog)) w4) ∧ ((128 : Int) ≠ 0
    → ∀ n9 : Int, n9 = IntKind.u64.wrap (Int.tmod n8 128) → ∀ n10 : Int, n10 = IntKind.i64.wrap ((7 : Int) * n3) → 0 ≤ (IntKind.u64.wrap n10) ∧ ∀ n11 : Int, n11 = IntKind.u64.wrap (n9 * 2 ^ (min (IntKind.u64.wrap
    n10).toNat (IntKind.bits .u64))) → ∀ n12 : Int, n12 = IntKind.u64.wrap (n2 + n11) → withSome b (fun d13 => (0 ≤ n3 ∧ n3 < (b_n : Nat)) ∧ ∃ (n14 : Int), w4.cell? (Addr.add d13 (n3.toNat * 1)) = some (.int .u8 n14) ∧
    (((decide (n14 < 128)) = true → withSome b (fun d15 => (0 ≤ n3 ∧ n3 < (b_n : Nat)) ∧ ∃ (n16 : Int), w4.cell? (Addr.add d15 (n3.toNat * 1)) = some (.int .u8 n16) ∧ (((n16 == 0) = true → (((decide (n3 > 0)) = true → R
    (.returned (.tuple #[.int .u64 0, .int .i64 0, .int .i64 4])) w4) ∧ ((decide (n3 > 0)) = false → R (.returned (.tuple #[.int .u64 n12, .int .i64 (IntKind.i64.wrap (n3 + 1)), .int .i64 0])) w4))) ∧ ((n16 == 0) = false
    → R (.returned (.tuple #[.int .u64 n12, .int .i64 (IntKind.i64.wrap (n3 + 1)), .int .i64 0])) w4)))) ∧ ((decide (n14 < 128)) = false → (I1 n12 (IntKind.i64.wrap (n3 + 1)) w4 ∧ m1 n12 (IntKind.i64.wrap (n3 + 1)) w4 <
    m1 n2 n3 w4))))))))))) ∧ ((n3 == 9) = false → withSome b (fun d17 => (0 ≤ n3 ∧ n3 < (b_n : Nat)) ∧ ∃ (n18 : Int), w4.cell? (Addr.add d17 (n3.toNat * 1)) = some (.int .u8 n18) ∧ (((128 : Int) = 0 → R (.panicked
    (divPanic Try.prog)) w4) ∧ ((128 : Int) ≠ 0 → ∀ n19 : Int, n19 = IntKind.u64.wrap (Int.tmod n18 128) → ∀ n20 : Int, n20 = IntKind.i64.wrap ((7 : Int) * n3) → 0 ≤ (IntKind.u64.wrap n20) ∧ ∀ n21 : Int, n21 =
    IntKind.u64.wrap (n19 * 2 ^ (min (IntKind.u64.wrap n20).toNat (IntKind.bits .u64))) → ∀ n22 : Int, n22 = IntKind.u64.wrap (n2 + n21) → withSome b (fun d23 => (0 ≤ n3 ∧ n3 < (b_n : Nat)) ∧ ∃ (n24 : Int), w4.cell?
    (Addr.add d23 (n3.toNat * 1)) = some (.int .u8 n24) ∧ (((decide (n24 < 128)) = true → withSome b (fun d25 => (0 ≤ n3 ∧ n3 < (b_n : Nat)) ∧ ∃ (n26 : Int), w4.cell? (Addr.add d25 (n3.toNat * 1)) = some (.int .u8 n26) ∧
    (((n26 == 0) = true → (((decide (n3 > 0)) = true → R (.returned (.tuple #[.int .u64 0, .int .i64 0, .int .i64 4])) w4) ∧ ((decide (n3 > 0)) = false → R (.returned (.tuple #[.int .u64 n22, .int .i64 (IntKind.i64.wrap
    (n3 + 1)), .int .i64 0])) w4))) ∧ ((n26 == 0) = false → R (.returned (.tuple #[.int .u64 n22, .int .i64 (IntKind.i64.wrap (n3 + 1)), .int .i64 0])) w4)))) ∧ ((decide (n24 < 128)) = false → (I1 n22 (IntKind.i64.wrap
    (n3 + 1)) w4 ∧ m1 n22 (IntKind.i64.wrap (n3 + 1)) w4 < m1 n2 n3 w4)))))))))) ∧ ((decide (n3 < ((b_n : Nat) : Int))) = false → R (.returned (.tuple #[.int .u64 0, .int .i64 0, .int .i64 3])) w4))
theorem sx36.ok {b : Option Addr} {b_n b_c : Nat} {R : Ending → World → Prop} {w : World} (h : sx36 b b_n b_c R w) : CallsW Try.prog 36 [.slice b b_n b_c] w R :=
  callsW_of mix Try.func36 (by kernel_rfl) (by kernel_rfl) (Eq.mpr (by kernel_rfl : denFn Try.prog { named := [28, 30, 32, 33], loops := [(3, { slots := [(5, .int .u64), (6, .int .i64)], cells := [] })] } Try.f36 [.slice b b_n b_c] R w = sx36 b b_n b_c R w) h)


theorem rTake_ok {b : Option Addr} {n c : Nat} {l : List Int} {w : World} (hs : Sl w b (Enc.int .u8) l) (hb : Bytes l) (hn : n = l.length) (hn' : l.length ≤ 9223372036854775807) :
    CallsW Try.prog 36 [.slice b n c] w (Rets fun v w' => v = .tuple #[.int .u64 (takeB l).1, .int .i64 (takeB l).2.1, .int .i64 (takeB l).2.2] ∧ w' = w) := by
  refine sx36.ok ?_
  unfold sx36
  refine ⟨fun x i w' => ∃ k : Nat, i = k ∧ k ≤ 9 ∧ k ≤ n ∧ 0 ≤ x ∧ x < 2 ^ (7 * k) ∧ takeB l = takeGo k x (l.drop k) ∧ w' = w, fun _ i _ => 10 - i.toNat, ⟨0, rfl, by decide, Nat.zero_le _, by decide, by decide, rfl, rfl⟩, ?_⟩
  rintro x i w' ⟨k, rfl, hk9, hkn, hx0, hx1, ht, rfl⟩
  subst hn
  refine ⟨fun hlt => ?_, fun hge => ?_⟩
  · simp only [decide_eq_true_eq] at hlt
    obtain ⟨d, y, rfl, hy, hcell⟩ := hs.at_ (n := k) (by omega) hlt
    have hyb := hb.get hy
    simp only [Int.toNat_natCast] at hy
    rw [drop_cons hy, takeGo_cons] at ht
    have hc : w'.cell? (d.add ((k : Int).toNat * 1)) = some (.int .u8 y) := by simpa [CellsAt, Enc.int, Addr.add_zero'] using hcell.1
    have hrange : (0 : Int) ≤ (k : Int) ∧ (k : Int) < (l.length : Nat) := ⟨by omega, hlt⟩
    have hwrap : IntKind.i64.wrap ((7 : Int) * (k : Int)) = ((7 * k : Nat) : Int) := by rw [IntKind.wrap_i64]; omega
    have hwrapu : IntKind.u64.wrap ((7 * k : Nat) : Int) = ((7 * k : Nat) : Int) := by rw [IntKind.wrap_u64]; omega
    have hmin : min (((7 * k : Nat) : Int)).toNat (IntKind.bits .u64) = 7 * k := by rw [Int.toNat_natCast, show IntKind.bits .u64 = 64 from rfl]; omega
    have hp := pow7 hk9
    have hpp : (0 : Int) < 2 ^ (7 * k) := Int.pow_pos (by decide)
    have hm : 0 ≤ y % 128 ∧ y % 128 < 128 := by omega
    have hnext : IntKind.i64.wrap ((k : Int) + 1) = ((k + 1 : Nat) : Int) := by rw [IntKind.wrap_i64]; omega
    have htm : IntKind.u64.wrap (Int.tmod y 128) = y % 128 := by rw [Int.tmod_eq_emod_of_nonneg hyb.1, IntKind.wrap_u64]; omega
    have hprod : (k = 9 → y ≤ 1) → y % 128 * 2 ^ (7 * k) < u64m ∧ x + y % 128 * 2 ^ (7 * k) < u64m ∧ 0 ≤ y % 128 * 2 ^ (7 * k) ∧ x + y % 128 * 2 ^ (7 * k) < 2 ^ (7 * (k + 1)) := by
      intro h9
      have hq0 : 0 ≤ y % 128 * 2 ^ (7 * k) := Int.mul_nonneg hm.1 (Int.le_of_lt hpp)
      have hq1 : y % 128 * 2 ^ (7 * k) ≤ 127 * 2 ^ (7 * k) := Int.mul_le_mul_of_nonneg_right (by omega) (Int.le_of_lt hpp)
      have hs : x + y % 128 * 2 ^ (7 * k) < 2 ^ (7 * (k + 1)) := by rw [pow7_step]; omega
      by_cases h : k = 9
      · subst h
        have := h9 rfl
        have h1 : y % 128 ≤ 1 := by omega
        have h2 : y % 128 * 2 ^ (7 * 9) ≤ 1 * 2 ^ (7 * 9) := Int.mul_le_mul_of_nonneg_right h1 (by decide)
        have e : (2 : Int) ^ (7 * 9) = 9223372036854775808 := by decide
        rw [e] at h2 hx1 hq0 ⊢
        refine ⟨by simp only [u64m]; omega, by simp only [u64m]; omega, hq0, by rw [e] at hs; exact hs⟩
      · have h8 : (2 : Int) ^ (7 * (k + 1)) ≤ 2 ^ 63 := pow7 (i := k + 1) (by omega)
        have e : (2 : Int) ^ 63 = 9223372036854775808 := by decide
        rw [e] at h8
        refine ⟨by simp only [u64m]; omega, by simp only [u64m]; omega, hq0, hs⟩
    refine ⟨fun h9 => ⟨hrange, y, hc, fun h1 => ?_, fun h1 => ⟨hrange, y, hc, fun h => (by simp at h), fun _ n9 e9 n10 e10 => ?_⟩⟩, fun h9 => ⟨hrange, y, hc, fun h => (by simp at h), fun _ n9 e9 n10 e10 => ?_⟩⟩
    · simp only [beq_iff_eq] at h9
      simp only [decide_eq_true_eq] at h1
      rw [if_pos ⟨by omega, h1⟩] at ht
      exact ⟨_, rfl, by rw [ht], rfl⟩
    all_goals
      simp only [beq_iff_eq, beq_eq_false_iff_ne, ne_eq] at h9
      have hcc : k = 9 → y ≤ 1 := by first | (simp only [decide_eq_false_iff_not] at h1; omega) | omega
      obtain ⟨q1, q2, q3, q4⟩ := hprod hcc
      have hno : ¬ (k = 9 ∧ 1 < y) := by omega
      rw [if_neg hno] at ht
      subst e9; subst e10
      rw [hwrap, hwrapu, htm, hmin]
      refine ⟨by omega, ?_⟩
      rintro n11 rfl
      have hwr : IntKind.u64.wrap (y % 128 * 2 ^ (7 * k)) = y % 128 * 2 ^ (7 * k) := by rw [IntKind.wrap_u64]; exact Int.emod_eq_of_lt q3 q1
      rw [hwr]
      rintro n12 rfl
      have hwx : IntKind.u64.wrap (x + y % 128 * 2 ^ (7 * k)) = x + y % 128 * 2 ^ (7 * k) := by rw [IntKind.wrap_u64]; exact Int.emod_eq_of_lt (by omega) q2
      rw [hwx, hnext]
      refine ⟨hrange, y, hc, fun hlt8 => ⟨hrange, y, hc, ?_⟩, fun hge8 => ?_⟩
      · simp only [decide_eq_true_eq] at hlt8
        rw [if_neg (by omega)] at ht
        have fin : ¬ (y = 0 ∧ 0 < k) → takeB l = (x + y % 128 * 2 ^ (7 * k), ((k + 1 : Nat) : Int), 0) := fun h => by rw [ht, if_neg h]; simp
        refine ⟨fun hz => ⟨fun hk => ?_, fun hk => ?_⟩, fun hz => ?_⟩
        · simp only [beq_iff_eq] at hz
          simp only [decide_eq_true_eq] at hk
          rw [if_pos ⟨hz, by omega⟩] at ht
          exact ⟨_, rfl, by rw [ht], rfl⟩
        · simp only [decide_eq_false_iff_not] at hk
          exact ⟨_, rfl, by rw [fin (by omega)], rfl⟩
        · simp only [beq_eq_false_iff_ne, ne_eq] at hz
          exact ⟨_, rfl, by rw [fin (by omega)], rfl⟩
      · simp only [decide_eq_false_iff_not] at hge8
        rw [if_pos (by omega)] at ht
        exact ⟨⟨k + 1, rfl, by omega, by omega, by omega, q4, ht, rfl⟩, by show 10 - (((k + 1 : Nat) : Int)).toNat < 10 - ((k : Int)).toNat; omega⟩
  · simp only [decide_eq_false_iff_not] at hge
    rw [drop_all (by omega)] at ht
    exact ⟨_, rfl, by rw [ht]; rfl, rfl⟩

end Go.Proofs.Yteakjjbajjkloaa
