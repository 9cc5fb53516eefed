/- What the wire's functions hand back: put, Put, Take, Word, TakeWord. Conditions: none. -/
import Derived.Test.YteakjjbajjkloaaProg
import Derived.Test.YteakjjbajjkloaaSxN
namespace Go.Proofs.Yteakjjbajjkloaa
open Go.Sx
set_option maxRecDepth 100000
set_option linter.unusedVariables false
set_option linter.unusedSimpArgs false
theorem mix : Try.prog.follows .mixedOrders = true := by kernel_rfl
/- reprise/wire.put -/
def sx45 (b : Option Addr) (b_n b_c : Nat) (x : Int) (R : Ending → World → Prop) (w : World) : Prop :=
  ∃ (I1 : Option Addr → Nat → Nat → Int → World → Prop) (m1 : Option Addr → Nat → Nat → Int → World → Nat), I1 b b_n b_c x w ∧ ∀ (a2 : Option Addr) (l2 c2 : Nat) (n3 : Int) (w4 : World), I1 a2 l2 c2 n3 w4 → (((decide (n3 ≥
    128)) = true → ∀ n5 : Int, n5 = Go.bits .or .u8 (IntKind.u8.wrap n3) 128 → ∀ (b6 : Nat) (w7 : World), Alloc w4 w7 b6 (.cells #[.int .u8 n5] 5) → SemW Try.prog (Builtin.append_ #[26, 26] 26 #[.slice a2 l2 c2, .slice
    (some ⟨b6, 0, none⟩) 1 1]) (fun u9 w8 => ∃ (a10 : Option Addr) (l10 c10 : Nat), u9 = .slice a10 l10 c10 ∧ 0 ≤ (7 : Int) ∧ ∀ n11 : Int, n11 = Int.fdiv n3 (2 ^ (min (7 : Int).toNat (IntKind.bits .u64))) → (I1 a10 l10
    c10 n11 w8 ∧ m1 a10 l10 c10 n11 w8 < m1 a2 l2 c2 n3 w4)) w7) ∧ ((decide (n3 ≥ 128)) = false → ∀ (b12 : Nat) (w13 : World), Alloc w4 w13 b12 (.cells #[.int .u8 (IntKind.u8.wrap n3)] 5) → SemW Try.prog (Builtin.append_
    #[26, 26] 26 #[.slice a2 l2 c2, .slice (some ⟨b12, 0, none⟩) 1 1]) (fun u15 w14 => ∃ (a16 : Option Addr) (l16 c16 : Nat), u15 = .slice a16 l16 c16 ∧ R (.returned (.slice a16 l16 c16)) w14) w13))
theorem sx45.ok {b : Option Addr} {b_n b_c : Nat} {x : Int} {R : Ending → World → Prop} {w : World} (h : sx45 b b_n b_c x R w) : CallsW Try.prog 45 [.slice b b_n b_c, .int .u64 x] w R :=
  callsW_of mix Try.func45 (by kernel_rfl) (by kernel_rfl) (Eq.mpr (by kernel_rfl : denFn Try.prog { sem := [14, 19], named := [8, 12], loops := [(1, { slots := [(0, .slice), (1, .int .u64)], cells := [] })] } Try.f45 [.slice b b_n b_c, .int .u64 x] R w = sx45 b b_n b_c x R w) h)

/- reprise/wire.Put -/
def sx31 (x : Int) (R : Ending → World → Prop) (w : World) : Prop :=
  CallsW Try.prog 45 [.slice none 0 0, .int .u64 x] w (RetR R fun u2 w1 => ∃ (a3 : Option Addr) (l3 c3 : Nat), u2 = .slice a3 l3 c3 ∧ R (.returned (.slice a3 l3 c3)) w1)
theorem sx31.ok {x : Int} {R : Ending → World → Prop} {w : World} (h : sx31 x R w) : CallsW Try.prog 31 [.int .u64 x] w R :=
  callsW_of mix Try.func31 (by kernel_rfl) (by kernel_rfl) (Eq.mpr (by kernel_rfl : denFn Try.prog {} Try.f31 [.int .u64 x] R w = sx31 x R w) h)

/- reprise/wire.Take -/
def sx46 (b : Option Addr) (b_n b_c : Nat) (R : Ending → World → Prop) (w : World) : Prop :=
  ∃ (I1 : Int → Int → World → Prop) (m1 : Int → Int → World → Nat), I1 0 0 w ∧ ∀ (n2 : Int) (n3 : Int) (w4 : World), I1 n2 n3 w4 → (((decide (n3 < ((b_n : Nat) : Int))) = true → withSome b (fun d5 => (0 ≤ n3 ∧ n3 < (b_n :
    Nat)) ∧ ∃ (n6 : Int), w4.cell? (Addr.add d5 (n3.toNat * 1)) = some (.int .u8 n6) ∧ (((n3 == 9) = true → (((decide (n6 > 1)) = true → R (.returned (.tuple #[.int .u64 0, .int .i64 0, .int .i64 4])) w4) ∧ ((decide (n6 >
    1)) = false → ∀ n7 : Int, n7 = IntKind.u64.wrap (Go.bits .andNot .u8 n6 128) → ∀ n8 : Int, n8 = IntKind.i64.wrap ((7 : Int) * n3) → 0 ≤ n8 ∧ ∀ n9 : Int, n9 = IntKind.u64.wrap (n7 * 2 ^ (min n8.toNat (IntKind.bits
    .u64))) → ((((Go.bits .and .u8 n6 128) != 0) = true → (I1 (Go.bits .or .u64 n2 n9) (IntKind.i64.wrap (n3 + 1)) w4 ∧ m1 (Go.bits .or .u64 n2 n9) (IntKind.i64.wrap (n3 + 1)) w4 < m1 n2 n3 w4)) ∧ (((Go.bits .and .u8 n6
    128) != 0) = false → (((n6 == 0) = true → (((decide (n3 > 0)) = true → R (.returned (.tuple #[.int .u64 0, .int .i64 0, .int .i64 4])) w4) ∧ ((decide (n3 > 0)) = false → R (.returned (.tuple #[.int .u64 (Go.bits .or
    .u64 n2 n9), .int .i64 (IntKind.i64.wrap (n3 + 1)), .int .i64 0])) w4))) ∧ ((n6 == 0) = false → R (.returned (.tuple #[.int .u64 (Go.bits .or .u64 n2 n9), .int .i64 (IntKind.i64.wrap (n3 + 1)), .int .i64 0]))
    w4))))))) ∧ ((n3 == 9) = false → ∀ n10 : Int, n10 = IntKind.u64.wrap (Go.bits .andNot .u8 n6 128) → ∀ n11 : Int, n11 = IntKind.i64.wrap ((7 : Int) * n3) → 0 ≤ n11 ∧ ∀ n12 : Int, n12 = IntKind.u64.wrap (n10 * 2 ^ (min
    n11.toNat (IntKind.bits .u64))) → ((((Go.bits .and .u8 n6 128) != 0) = true → (I1 (Go.bits .or .u64 n2 n12) (IntKind.i64.wrap (n3 + 1)) w4 ∧ m1 (Go.bits .or .u64 n2 n12) (IntKind.i64.wrap (n3 + 1)) w4 < m1 n2 n3 w4))
    ∧ (((Go.bits .and .u8 n6 128) != 0) = false → (((n6 == 0) = true → (((decide (n3 > 0)) = true → R (.returned (.tuple #[.int .u64 0, .int .i64 0, .int .i64 4])) w4) ∧ ((decide (n3 > 0)) = false → R (.returned (.tuple
    #[.int .u64 (Go.bits .or .u64 n2 n12), .int .i64 (IntKind.i64.wrap (n3 + 1)), .int .i64 0])) w4))) ∧ ((n6 == 0) = false → R (.returned (.tuple #[.int .u64 (Go.bits .or .u64 n2 n12), .int .i64 (IntKind.i64.wrap (n3 +
    1)), .int .i64 0])) w4)))))))) ∧ ((decide (n3 < ((b_n : Nat) : Int))) = false → R (.returned (.tuple #[.int .u64 0, .int .i64 0, .int .i64 3])) w4))
theorem sx46.ok {b : Option Addr} {b_n b_c : Nat} {R : Ending → World → Prop} {w : World} (h : sx46 b b_n b_c R w) : CallsW Try.prog 46 [.slice b b_n b_c] w R :=
  callsW_of mix Try.func46 (by kernel_rfl) (by kernel_rfl) (Eq.mpr (by kernel_rfl : denFn Try.prog { named := [24, 26, 27], loops := [(3, { slots := [(5, .int .u64), (10, .int .i64)], cells := [] })] } Try.f46 [.slice b b_n b_c] R w = sx46 b b_n b_c R w) h)


theorem e8 : ElemOk Try.prog 26 5 (Enc.int .u8).sz 1 := ElemOk.mk' (z := .int .u8 0) (by kernel_rfl) (by kernel_rfl) (by kernel_rfl)

theorem put_ok {a : Option Addr} {n c : Nat} {l : List Int} {x : Int} {w : World} {B : Nat} (ho : Own w B 5 (Enc.int .u8) a n c l) (h0 : 0 ≤ x) (h1 : x < u64m) (hB : B ≤ w.heap.size) (hl : l.length ≤ 1099511627776) :
    CallsW Try.prog 45 [.slice a n c, .int .u64 x] w (Rets (Onto w B 5 (Enc.int .u8) a (l ++ putB x))) := by
  refine sx45.ok ?_
  unfold sx45
  have h10 := putB_len10 h1
  refine ⟨fun a' n' c' x' w' => ∃ done, Own w' B 5 (Enc.int .u8) a' n' c' (l ++ done) ∧ done ++ putB x' = putB x ∧ 0 ≤ x' ∧ x' < u64m ∧ Upd (Blk a) w w' ∧ ∀ b, Blk a' b → Blk a b ∨ w.heap.size ≤ b, fun _ _ _ x' _ => x'.toNat, ⟨[], by simpa using ho, rfl, h0, h1, Upd.refl _ _, fun b hb => .inl hb⟩, ?_⟩
  rintro a' n' c' x' w' ⟨done, ho', hd, hx0, hx1, hu, hb⟩
  have hlen : done.length + (putB x').length ≤ 10 := by rw [← List.length_append, hd]; exact h10
  have hpos := putB_pos x'
  refine ⟨fun hge => ?_, fun hlt => ?_⟩
  · simp only [decide_eq_true_eq] at hge
    rintro y rfl b1 w1 hal
    refine append_new (l2 := [x' % 128 + 128]) e8 ho' hal (by rw [sx_or128 hx0]; rfl) rfl (Nat.le_trans hB hu.size) (by simp [maxLen]; omega) (by simp; omega) ?_
    rintro v w2 ⟨a2, n2, c2, rfl, ho2, hu2, hb2⟩
    refine ⟨a2, n2, c2, rfl, by decide, fun y hy => ?_⟩
    have hy' : y = x' / 128 := by rw [hy]; rw [Int.fdiv_eq_ediv_of_nonneg _ (by decide)]; rfl
    subst hy'
    have hp := putB_ge (x := x') (by omega)
    refine ⟨⟨done ++ [x' % 128 + 128], by rw [← List.append_assoc]; exact ho2, by rw [List.append_assoc, ← hd, hp]; rfl, by omega, by simp only [u64m] at *; omega, hu.then hu2 fun k hk h => (hb k h).resolve_right (by omega), fun b h => ?_⟩, by show (x' / 128).toNat < x'.toNat; omega⟩
    rcases hb2 b h with h | h
    · exact hb b h
    · exact .inr (Nat.le_trans hu.size h)
  · simp only [decide_eq_false_iff_not, ge_iff_le] at hlt
    intro b1 w1 hal
    have hlt' : x' < 128 := by omega
    refine append_new (l2 := [x']) e8 ho' hal (by rw [IntKind.wrap_u8', Int.emod_eq_of_lt hx0 (by omega)]; rfl) rfl (Nat.le_trans hB hu.size) (by simp [maxLen]; omega) (by simp; omega) ?_
    intro v w2 hon
    have hon' := hon.step hu hb
    rw [putB_lt hlt'] at hd
    rw [List.append_assoc, hd] at hon'
    obtain ⟨a2, n2, c2, rfl, h⟩ := hon'
    exact ⟨a2, n2, c2, rfl, _, rfl, a2, n2, c2, rfl, h⟩

theorem Put_ok {x : Int} {w : World} (h0 : 0 ≤ x) (h1 : x < u64m) : CallsW Try.prog 31 [.int .u64 x] w (Rets (Fresh w 5 (Enc.int .u8) (putB x))) := by
  refine sx31.ok ?_
  unfold sx31
  refine (put_ok (Own.nil w w.heap.size _ _) h0 h1 (Nat.le_refl _) (by simp)).use fun v w' hon => ?_
  have := hon.fresh
  obtain ⟨a, n, c, rfl, h⟩ := this
  exact ⟨a, n, c, rfl, _, rfl, a, n, c, rfl, h⟩

/-- b[i] = byte(x >> (8*i)), i from 0 to 7 -/
theorem Take_ok {b : Option Addr} {n c : Nat} {l : List Int} {w : World} (hs : Sl w b (Enc.int .u8) l) (hb : Bytes l) (hn : n = l.length) (hn' : l.length ≤ 9223372036854775807) :
    CallsW Try.prog 46 [.slice b n c] w (Rets fun v w' => v = .tuple #[.int .u64 (takeB l).1, .int .i64 (takeB l).2.1, .int .i64 (takeB l).2.2] ∧ w' = w) := by
  refine sx46.ok ?_
  unfold sx46
  refine ⟨fun x i w' => ∃ k : Nat, i = k ∧ k ≤ 9 ∧ k ≤ n ∧ 0 ≤ x ∧ x < 2 ^ (7 * k) ∧ takeB l = takeGo k x (l.drop k) ∧ w' = w, fun _ i _ => 10 - i.toNat, ⟨0, rfl, by decide, Nat.zero_le _, by decide, by decide, rfl, rfl⟩, ?_⟩
  rintro x i w' ⟨k, rfl, hk9, hkn, hx0, hx1, ht, rfl⟩
  subst hn
  refine ⟨fun hlt => ?_, fun hge => ?_⟩
  · simp only [decide_eq_true_eq] at hlt
    obtain ⟨d, y, rfl, hy, hcell⟩ := hs.at_ (n := k) (by omega) hlt
    have hyb := hb.get hy
    simp only [Int.toNat_natCast] at hy
    rw [drop_cons hy, takeGo_cons] at ht
    refine ⟨by omega, y, by simpa [CellsAt, Enc.int, Addr.add_zero'] using hcell.1, ?_⟩
    have hwrap : IntKind.i64.wrap ((7 : Int) * (k : Int)) = ((7 * k : Nat) : Int) := by rw [IntKind.wrap_i64]; omega
    have hmin : min (((7 * k : Nat) : Int)).toNat (IntKind.bits .u64) = 7 * k := by rw [Int.toNat_natCast, show IntKind.bits .u64 = 64 from rfl]; omega
    have hp := pow7 hk9
    have hpp : (0 : Int) < 2 ^ (7 * k) := Int.pow_pos (by decide)
    have hm : 0 ≤ y % 128 ∧ y % 128 < 128 := by omega
    have hand := sx_andNot128 hyb.1 hyb.2
    have hw128 : IntKind.u64.wrap (y % 128) = y % 128 := by rw [IntKind.wrap_u64]; omega
    have hnext : IntKind.i64.wrap ((k : Int) + 1) = ((k + 1 : Nat) : Int) := by rw [IntKind.wrap_i64]; omega
    -- the parts of a byte
    have hprod : (k = 9 → y ≤ 1) → y % 128 * 2 ^ (7 * k) < u64m := by
      intro h9
      by_cases h : k = 9
      · subst h
        have := h9 rfl
        have : y % 128 ≤ 1 := by omega
        have : y % 128 * 2 ^ (7 * 9) ≤ 1 * 2 ^ (7 * 9) := Int.mul_le_mul_of_nonneg_right this (by decide)
        exact Int.lt_of_le_of_lt this (by decide)
      · have h8 : (2 : Int) ^ (7 * k) ≤ 2 ^ 56 := by exact_mod_cast Nat.pow_le_pow_right (by decide : 0 < 2) (by omega : 7 * k ≤ 56)
        have : y % 128 * 2 ^ (7 * k) ≤ 128 * 2 ^ 56 := Int.mul_le_mul (by omega) h8 (Int.le_of_lt hpp) (by decide)
        exact Int.lt_of_le_of_lt this (by decide)
    have tail : (k = 9 → y ≤ 1) → ∀ n7 : Int, n7 = IntKind.u64.wrap (Go.bits .andNot .u8 y 128) → ∀ n8 : Int, n8 = IntKind.i64.wrap ((7 : Int) * (k : Int)) → 0 ≤ n8 ∧ ∀ n9 : Int, n9 = IntKind.u64.wrap (n7 * 2 ^ (min n8.toNat (IntKind.bits .u64))) → n9 = y % 128 * 2 ^ (7 * k) ∧ Go.bits .or .u64 x n9 = x + y % 128 * 2 ^ (7 * k) ∧ 0 ≤ x + y % 128 * 2 ^ (7 * k) ∧ x + y % 128 * 2 ^ (7 * k) < 2 ^ (7 * (k + 1)) := by
      rintro h9 n7 rfl n8 rfl
      rw [hwrap]
      refine ⟨by omega, ?_⟩
      rintro n9 rfl
      rw [hand, hw128, hmin]
      have hq := hprod h9
      have hq0 : 0 ≤ y % 128 * 2 ^ (7 * k) := Int.mul_nonneg hm.1 (Int.le_of_lt hpp)
      have hwr : IntKind.u64.wrap (y % 128 * 2 ^ (7 * k)) = y % 128 * 2 ^ (7 * k) := by rw [IntKind.wrap_u64]; exact Int.emod_eq_of_lt hq0 hq
      rw [hwr]
      refine ⟨rfl, sx_or_add _ hx0 hx1 hm.1 hq (by omega), by omega, ?_⟩
      rw [pow7_step]
      have : y % 128 * 2 ^ (7 * k) ≤ 127 * 2 ^ (7 * k) := Int.mul_le_mul_of_nonneg_right (by omega) (Int.le_of_lt hpp)
      omega
    have h128 : (Go.bits .and .u8 y 128 != 0) = decide (128 ≤ y) := by rw [sx_and128 hyb.1 hyb.2]; by_cases h : 128 ≤ y <;> simp [h]
    rw [h128]
    refine ⟨fun h9 => ⟨fun h1 => ?_, fun h1 n7 e7 n8 e8 => ?_⟩, fun h9 n7 e7 n8 e8 => ?_⟩
    · simp only [beq_iff_eq] at h9
      simp only [decide_eq_true_eq] at h1
      rw [if_pos ⟨by omega, h1⟩] at ht
      exact ⟨_, rfl, by rw [ht], rfl⟩
    all_goals
      simp only [beq_iff_eq, beq_eq_false_iff_ne, ne_eq, decide_eq_false_iff_not] at h9
      have hc : k = 9 → y ≤ 1 := by first | (simp only [decide_eq_false_iff_not] at h1; omega) | omega
      have hno : ¬ (k = 9 ∧ 1 < y) := by omega
      rw [if_neg hno] at ht
      refine ⟨(tail hc n7 e7 n8 e8).1, fun n9 e9 => ?_⟩
      obtain ⟨e9', hor, hs0, hs1⟩ := (tail hc n7 e7 n8 e8).2 n9 e9
      rw [hor, hnext]
      refine ⟨fun hm => ?_, fun hm => ?_⟩
      · simp only [decide_eq_true_eq] at hm
        rw [if_pos hm] at ht
        exact ⟨⟨k + 1, rfl, by omega, by omega, hs0, hs1, ht, rfl⟩, by show 10 - (((k + 1 : Nat) : Int)).toNat < 10 - ((k : Int)).toNat; omega⟩
      · simp only [decide_eq_false_iff_not] at hm
        rw [if_neg hm] at ht
        have fin : ¬ (y = 0 ∧ 0 < k) → takeB l = (x + y % 128 * 2 ^ (7 * k), ((k + 1 : Nat) : Int), 0) := fun h => by rw [ht, if_neg h]; simp
        refine ⟨fun hz => ⟨fun hk => ?_, fun hk => ?_⟩, fun hz => ?_⟩
        · simp only [beq_iff_eq] at hz
          simp only [decide_eq_true_eq] at hk
          rw [if_pos ⟨hz, by omega⟩] at ht
          exact ⟨_, rfl, by rw [ht], rfl⟩
        · simp only [decide_eq_false_iff_not] at hk
          exact ⟨_, rfl, by rw [fin (by omega)], rfl⟩
        · simp only [beq_eq_false_iff_ne, ne_eq] at hz
          exact ⟨_, rfl, by rw [fin (by omega)], rfl⟩
  · simp only [decide_eq_false_iff_not] at hge
    rw [drop_all (by omega)] at ht
    exact ⟨_, rfl, by rw [ht]; rfl, rfl⟩

end Go.Proofs.Yteakjjbajjkloaa
