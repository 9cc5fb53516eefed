/- What the wire's functions hand back: put, Put, Take, Word, TakeWord. Conditions: none. -/
import Derived.Test.YtnbknhcpjggabaaProg
import Derived.Test.YtnbknhcpjggabaaSxN
namespace Go.Proofs.Ytnbknhcpjggabaa
open Go.Sx
set_option maxRecDepth 100000
set_option linter.unusedVariables false
set_option linter.unusedSimpArgs false
theorem mix : Try.prog.follows .mixedOrders = true := by kernel_rfl
/- reprise/wire.put -/
def sx42 (b : Option Addr) (b_n b_c : Nat) (x : Int) (R : Ending → World → Prop) (w : World) : Prop :=
  ∃ (I1 : Option Addr → Nat → Nat → Int → World → Prop) (m1 : Option Addr → Nat → Nat → Int → World → Nat), I1 b b_n b_c x w ∧ ∀ (a2 : Option Addr) (l2 c2 : Nat) (n3 : Int) (w4 : World), I1 a2 l2 c2 n3 w4 → (((decide (n3 ≥
    128)) = true → ∀ n5 : Int, n5 = Go.bits .or .u8 (IntKind.u8.wrap n3) 128 → ∀ (b6 : Nat) (w7 : World), Alloc w4 w7 b6 (.cells #[.int .u8 n5] 5) → SemW Try.prog (Builtin.append_ #[24, 24] 24 #[.slice a2 l2 c2, .slice
    (some ⟨b6, 0, none⟩) 1 1]) (fun u9 w8 => ∃ (a10 : Option Addr) (l10 c10 : Nat), u9 = .slice a10 l10 c10 ∧ 0 ≤ (7 : Int) ∧ ∀ n11 : Int, n11 = Int.fdiv n3 (2 ^ (min (7 : Int).toNat (IntKind.bits .u64))) → (I1 a10 l10
    c10 n11 w8 ∧ m1 a10 l10 c10 n11 w8 < m1 a2 l2 c2 n3 w4)) w7) ∧ ((decide (n3 ≥ 128)) = false → ∀ (b12 : Nat) (w13 : World), Alloc w4 w13 b12 (.cells #[.int .u8 (IntKind.u8.wrap n3)] 5) → SemW Try.prog (Builtin.append_
    #[24, 24] 24 #[.slice a2 l2 c2, .slice (some ⟨b12, 0, none⟩) 1 1]) (fun u15 w14 => ∃ (a16 : Option Addr) (l16 c16 : Nat), u15 = .slice a16 l16 c16 ∧ R (.returned (.slice a16 l16 c16)) w14) w13))
theorem sx42.ok {b : Option Addr} {b_n b_c : Nat} {x : Int} {R : Ending → World → Prop} {w : World} (h : sx42 b b_n b_c x R w) : CallsW Try.prog 42 [.slice b b_n b_c, .int .u64 x] w R :=
  callsW_of mix Try.func42 (by kernel_rfl) (by kernel_rfl) (Eq.mpr (by kernel_rfl : denFn Try.prog { sem := [14, 19], named := [8, 12], loops := [(1, { slots := [(0, .slice), (1, .int .u64)], cells := [] })] } Try.f42 [.slice b b_n b_c, .int .u64 x] R w = sx42 b b_n b_c x R w) h)

/- reprise/wire.Put -/
def sx22 (x : Int) (R : Ending → World → Prop) (w : World) : Prop :=
  CallsW Try.prog 42 [.slice none 0 0, .int .u64 x] w (RetR R fun u2 w1 => ∃ (a3 : Option Addr) (l3 c3 : Nat), u2 = .slice a3 l3 c3 ∧ R (.returned (.slice a3 l3 c3)) w1)
theorem sx22.ok {x : Int} {R : Ending → World → Prop} {w : World} (h : sx22 x R w) : CallsW Try.prog 22 [.int .u64 x] w R :=
  callsW_of mix Try.func22 (by kernel_rfl) (by kernel_rfl) (Eq.mpr (by kernel_rfl : denFn Try.prog {} Try.f22 [.int .u64 x] R w = sx22 x R w) h)

/- reprise/wire.Word -/
def sx54 (x : Int) (R : Ending → World → Prop) (w : World) : Prop :=
  SemW Try.prog (Instr.makeSlice 24 (.int .i64 8) (.int .i64 8)) (fun u2 w1 => ∃ (a3 : Option Addr) (l3 c3 : Nat), u2 = .slice a3 l3 c3 ∧ ∃ (I4 : Int → World → Prop) (m4 : Int → World → Nat), I4 0 w1 ∧ ∀ (n5 : Int) (w6 :
    World), I4 n5 w6 → (((decide (n5 < ((l3 : Nat) : Int))) = true → ∀ n7 : Int, n7 = IntKind.i64.wrap ((8 : Int) * n5) → 0 ≤ n7 ∧ ∀ n8 : Int, n8 = Int.fdiv x (2 ^ (min n7.toNat (IntKind.bits .u64))) → withSome a3 (fun d9
    => (0 ≤ n5 ∧ n5 < (l3 : Nat)) ∧ RoomAt w6 (Addr.add d9 (n5.toNat * 1)) 0 [.int .u8 (IntKind.u8.wrap n8)] ∧ ∀ w10, w10 = setCells w6 (Addr.add d9 (n5.toNat * 1)) 0 [.int .u8 (IntKind.u8.wrap n8)] → (I4
    (IntKind.i64.wrap (n5 + 1)) w10 ∧ m4 (IntKind.i64.wrap (n5 + 1)) w10 < m4 n5 w6))) ∧ ((decide (n5 < ((l3 : Nat) : Int))) = false → R (.returned (.slice a3 l3 c3)) w6))) w
theorem sx54.ok {x : Int} {R : Ending → World → Prop} {w : World} (h : sx54 x R w) : CallsW Try.prog 54 [.int .u64 x] w R :=
  callsW_of mix Try.func54 (by kernel_rfl) (by kernel_rfl) (Eq.mpr (by kernel_rfl : denFn Try.prog { sem := [5], named := [15, 16], loops := [(3, { slots := [(8, .int .i64)], cells := [] })] } Try.f54 [.int .u64 x] R w = sx54 x R w) h)

/- reprise/wire.Take -/
def sx45 (b : Option Addr) (b_n b_c : Nat) (R : Ending → World → Prop) (w : World) : Prop :=
  ∃ (I1 : Int → Int → World → Prop) (m1 : Int → Int → World → Nat), I1 0 0 w ∧ ∀ (n2 : Int) (n3 : Int) (w4 : World), I1 n2 n3 w4 → (((decide (n3 < ((b_n : Nat) : Int))) = true → withSome b (fun d5 => (0 ≤ n3 ∧ n3 < (b_n :
    Nat)) ∧ ∃ (n6 : Int), w4.cell? (Addr.add d5 (n3.toNat * 1)) = some (.int .u8 n6) ∧ (((n3 == 9) = true → (((decide (n6 > 1)) = true → R (.returned (.tuple #[.int .u64 0, .int .i64 0, .int .i64 4])) w4) ∧ ((decide (n6 >
    1)) = false → ∀ n7 : Int, n7 = IntKind.u64.wrap (Go.bits .andNot .u8 n6 128) → ∀ n8 : Int, n8 = IntKind.i64.wrap ((7 : Int) * n3) → 0 ≤ n8 ∧ ∀ n9 : Int, n9 = IntKind.u64.wrap (n7 * 2 ^ (min n8.toNat (IntKind.bits
    .u64))) → ((((Go.bits .and .u8 n6 128) != 0) = true → (I1 (Go.bits .or .u64 n2 n9) (IntKind.i64.wrap (n3 + 1)) w4 ∧ m1 (Go.bits .or .u64 n2 n9) (IntKind.i64.wrap (n3 + 1)) w4 < m1 n2 n3 w4)) ∧ (((Go.bits .and .u8 n6
    128) != 0) = false → (((n6 == 0) = true → (((decide (n3 > 0)) = true → R (.returned (.tuple #[.int .u64 0, .int .i64 0, .int .i64 4])) w4) ∧ ((decide (n3 > 0)) = false → R (.returned (.tuple #[.int .u64 (Go.bits .or
    .u64 n2 n9), .int .i64 (IntKind.i64.wrap (n3 + 1)), .int .i64 0])) w4))) ∧ ((n6 == 0) = false → R (.returned (.tuple #[.int .u64 (Go.bits .or .u64 n2 n9), .int .i64 (IntKind.i64.wrap (n3 + 1)), .int .i64 0]))
    w4))))))) ∧ ((n3 == 9) = false → ∀ n10 : Int, n10 = IntKind.u64.wrap (Go.bits .andNot .u8 n6 128) → ∀ n11 : Int, n11 = IntKind.i64.wrap ((7 : Int) * n3) → 0 ≤ n11 ∧ ∀ n12 : Int, n12 = IntKind.u64.wrap (n10 * 2 ^ (min
    n11.toNat (IntKind.bits .u64))) → ((((Go.bits .and .u8 n6 128) != 0) = true → (I1 (Go.bits .or .u64 n2 n12) (IntKind.i64.wrap (n3 + 1)) w4 ∧ m1 (Go.bits .or .u64 n2 n12) (IntKind.i64.wrap (n3 + 1)) w4 < m1 n2 n3 w4))
    ∧ (((Go.bits .and .u8 n6 128) != 0) = false → (((n6 == 0) = true → (((decide (n3 > 0)) = true → R (.returned (.tuple #[.int .u64 0, .int .i64 0, .int .i64 4])) w4) ∧ ((decide (n3 > 0)) = false → R (.returned (.tuple
    #[.int .u64 (Go.bits .or .u64 n2 n12), .int .i64 (IntKind.i64.wrap (n3 + 1)), .int .i64 0])) w4))) ∧ ((n6 == 0) = false → R (.returned (.tuple #[.int .u64 (Go.bits .or .u64 n2 n12), .int .i64 (IntKind.i64.wrap (n3 +
    1)), .int .i64 0])) w4)))))))) ∧ ((decide (n3 < ((b_n : Nat) : Int))) = false → R (.returned (.tuple #[.int .u64 0, .int .i64 0, .int .i64 3])) w4))
theorem sx45.ok {b : Option Addr} {b_n b_c : Nat} {R : Ending → World → Prop} {w : World} (h : sx45 b b_n b_c R w) : CallsW Try.prog 45 [.slice b b_n b_c] w R :=
  callsW_of mix Try.func45 (by kernel_rfl) (by kernel_rfl) (Eq.mpr (by kernel_rfl : denFn Try.prog { named := [24, 26, 27], loops := [(3, { slots := [(5, .int .u64), (10, .int .i64)], cells := [] })] } Try.f45 [.slice b b_n b_c] R w = sx45 b b_n b_c R w) h)

/- reprise/wire.TakeWord -/
def sx55 (b : Option Addr) (b_n b_c : Nat) (R : Ending → World → Prop) (w : World) : Prop :=
  (((decide (((b_n : Nat) : Int) < 8)) = true → R (.returned (.tuple #[.int .u64 0, .int .i64 3])) w) ∧ ((decide (((b_n : Nat) : Int) < 8)) = false → (0 ≤ (8 : Int) ∧ (8 : Int) ≤ (b_c : Nat)) ∧ ∃ (I1 : Int → Int → World →
    Prop) (m1 : Int → Int → World → Nat), I1 0 0 w ∧ ∀ (n2 : Int) (n3 : Int) (w4 : World), I1 n2 n3 w4 → (((decide (n3 < (((8 : Int).toNat : Nat) : Int))) = true → withSome b (fun d5 => (0 ≤ n3 ∧ n3 < ((8 : Int).toNat :
    Nat)) ∧ ∃ (n6 : Int), w4.cell? (Addr.add d5 (n3.toNat * 1)) = some (.int .u8 n6) ∧ ∀ n7 : Int, n7 = IntKind.i64.wrap ((8 : Int) * n3) → 0 ≤ n7 ∧ ∀ n8 : Int, n8 = IntKind.u64.wrap ((IntKind.u64.wrap n6) * 2 ^ (min
    n7.toNat (IntKind.bits .u64))) → (I1 (Go.bits .or .u64 n2 n8) (IntKind.i64.wrap (n3 + 1)) w4 ∧ m1 (Go.bits .or .u64 n2 n8) (IntKind.i64.wrap (n3 + 1)) w4 < m1 n2 n3 w4))) ∧ ((decide (n3 < (((8 : Int).toNat : Nat) :
    Int))) = false → R (.returned (.tuple #[.int .u64 n2, .int .i64 0])) w4))))
theorem sx55.ok {b : Option Addr} {b_n b_c : Nat} {R : Ending → World → Prop} {w : World} (h : sx55 b b_n b_c R w) : CallsW Try.prog 55 [.slice b b_n b_c] w R :=
  callsW_of mix Try.func55 (by kernel_rfl) (by kernel_rfl) (Eq.mpr (by kernel_rfl : denFn Try.prog { named := [22, 23], loops := [(5, { slots := [(4, .int .u64), (13, .int .i64)], cells := [] })] } Try.f55 [.slice b b_n b_c] R w = sx55 b b_n b_c R w) h)


theorem e8 : ElemOk Try.prog 24 5 (Enc.int .u8).sz 1 := ElemOk.mk' (z := .int .u8 0) (by kernel_rfl) (by kernel_rfl) (by kernel_rfl)

theorem put_ok {a : Option Addr} {n c : Nat} {l : List Int} {x : Int} {w : World} {B : Nat} (ho : Own w B 5 (Enc.int .u8) a n c l) (h0 : 0 ≤ x) (h1 : x < u64m) (hB : B ≤ w.heap.size) (hl : l.length ≤ 1099511627776) :
    CallsW Try.prog 42 [.slice a n c, .int .u64 x] w (Rets (Onto w B 5 (Enc.int .u8) a (l ++ putB x))) := by
  refine sx42.ok ?_
  unfold sx42
  have h10 := putB_len10 h1
  refine ⟨fun a' n' c' x' w' => ∃ done, Own w' B 5 (Enc.int .u8) a' n' c' (l ++ done) ∧ done ++ putB x' = putB x ∧ 0 ≤ x' ∧ x' < u64m ∧ Upd (Blk a) w w' ∧ ∀ b, Blk a' b → Blk a b ∨ w.heap.size ≤ b, fun _ _ _ x' _ => x'.toNat, ⟨[], by simpa using ho, rfl, h0, h1, Upd.refl _ _, fun b hb => .inl hb⟩, ?_⟩
  rintro a' n' c' x' w' ⟨done, ho', hd, hx0, hx1, hu, hb⟩
  have hlen : done.length + (putB x').length ≤ 10 := by rw [← List.length_append, hd]; exact h10
  have hpos := putB_pos x'
  refine ⟨fun hge => ?_, fun hlt => ?_⟩
  · simp only [decide_eq_true_eq] at hge
    rintro y rfl b1 w1 hal
    refine append_new (l2 := [x' % 128 + 128]) e8 ho' hal (by rw [sx_or128 hx0]; rfl) rfl (Nat.le_trans hB hu.size) (by simp [maxLen]; omega) (by simp; omega) ?_
    rintro v w2 ⟨a2, n2, c2, rfl, ho2, hu2, hb2⟩
    refine ⟨a2, n2, c2, rfl, by decide, fun y hy => ?_⟩
    have hy' : y = x' / 128 := by rw [hy]; rw [Int.fdiv_eq_ediv_of_nonneg _ (by decide)]; rfl
    subst hy'
    have hp := putB_ge (x := x') (by omega)
    refine ⟨⟨done ++ [x' % 128 + 128], by rw [← List.append_assoc]; exact ho2, by rw [List.append_assoc, ← hd, hp]; rfl, by omega, by simp only [u64m] at *; omega, hu.then hu2 fun k hk h => (hb k h).resolve_right (by omega), fun b h => ?_⟩, by show (x' / 128).toNat < x'.toNat; omega⟩
    rcases hb2 b h with h | h
    · exact hb b h
    · exact .inr (Nat.le_trans hu.size h)
  · simp only [decide_eq_false_iff_not, ge_iff_le] at hlt
    intro b1 w1 hal
    have hlt' : x' < 128 := by omega
    refine append_new (l2 := [x']) e8 ho' hal (by rw [IntKind.wrap_u8', Int.emod_eq_of_lt hx0 (by omega)]; rfl) rfl (Nat.le_trans hB hu.size) (by simp [maxLen]; omega) (by simp; omega) ?_
    intro v w2 hon
    have hon' := hon.step hu hb
    rw [putB_lt hlt'] at hd
    rw [List.append_assoc, hd] at hon'
    obtain ⟨a2, n2, c2, rfl, h⟩ := hon'
    exact ⟨a2, n2, c2, rfl, _, rfl, a2, n2, c2, rfl, h⟩

theorem Put_ok {x : Int} {w : World} (h0 : 0 ≤ x) (h1 : x < u64m) : CallsW Try.prog 22 [.int .u64 x] w (Rets (Fresh w 5 (Enc.int .u8) (putB x))) := by
  refine sx22.ok ?_
  unfold sx22
  refine (put_ok (Own.nil w w.heap.size _ _) h0 h1 (Nat.le_refl _) (by simp)).use fun v w' hon => ?_
  have := hon.fresh
  obtain ⟨a, n, c, rfl, h⟩ := this
  exact ⟨a, n, c, rfl, _, rfl, a, n, c, rfl, h⟩

/-- b[i] = byte(x >> (8*i)), i from 0 to 7 -/
theorem Word_ok {x : Int} {w : World} (h0 : 0 ≤ x) (h1 : x < u64m) : CallsW Try.prog 54 [.int .u64 x] w (Rets (Fresh w 5 (Enc.int .u8) (wordB x))) := by
  refine sx54.ok ?_
  unfold sx54
  refine make_own (e := 5) (n := 8) (x := (0 : Int)) (E := Enc.int .u8) (z := .int .u8 0) (bytes := 1) (by kernel_rfl) (by kernel_rfl) rfl (by decide) (by decide) ?_
  rintro v w1 ⟨a, n, c, rfl, ho, hg⟩
  refine ⟨a, n, c, rfl, fun i w' => ∃ k : Nat, i = k ∧ k ≤ 8 ∧ Own w' w.heap.size 5 (Enc.int .u8) a n c (((wordB x).take k) ++ List.replicate (8 - k) 0) ∧ Grew w w', fun i _ => 8 - i.toNat, ⟨0, rfl, by decide, ho, hg⟩, ?_⟩
  rintro i w2 ⟨k, rfl, hk, ho2, hg2⟩
  have hn : n = 8 := by have := ho.len; simpa using this
  subst hn
  refine ⟨fun hlt => ?_, fun hge => ?_⟩
  · simp only [decide_eq_true_eq] at hlt
    have hk8 : k < 8 := by omega
    rintro m rfl
    refine ⟨by rw [IntKind.wrap_i64]; omega, ?_⟩
    rintro y rfl
    have hlen : ((wordB x).take k ++ List.replicate (8 - k) (0 : Int)).length = 8 := by simp [wordB]; omega
    obtain ⟨d, rfl, hroom, hset, hu⟩ := ho2.set (i := k) (by omega) (IntKind.u8.wrap (Int.fdiv x (2 ^ (min (IntKind.i64.wrap ((8 : Int) * (k : Int))).toNat (IntKind.bits .u64)))))
    have hs1 : ∀ y : Int, (Enc.int .u8).f y = [.int .u8 y] := fun _ => rfl
    have hs2 : (Enc.int .u8).sz = 1 := rfl
    rw [hs1, hs2] at hroom hset hu
    refine ⟨by omega, by simpa using hroom, ?_⟩
    rintro w3 rfl
    have hw : IntKind.i64.wrap ((k : Int) + 1) = ((k + 1 : Nat) : Int) := by rw [IntKind.wrap_i64]; omega
    rw [hw]
    refine ⟨⟨k + 1, rfl, by omega, ?_, hg2.then_own hu fun b hb => (ho2.blk hb).1⟩, by show 8 - (((k + 1 : Nat) : Int)).toNat < 8 - ((k : Int)).toNat; omega⟩
    have e : ∀ y, y = x / 2 ^ (8 * k) → IntKind.u8.wrap (Int.fdiv x (2 ^ (min (IntKind.i64.wrap ((8 : Int) * (k : Int))).toNat (IntKind.bits .u64)))) = y % 256 := by
      rintro y rfl
      have e1 : IntKind.i64.wrap ((8 : Int) * (k : Int)) = ((8 * k : Nat) : Int) := by rw [IntKind.wrap_i64]; omega
      rw [e1, Int.toNat_natCast, show IntKind.bits .u64 = 64 from rfl, Nat.min_eq_left (by omega), Int.fdiv_eq_ediv_of_nonneg _ (Int.le_of_lt (Int.pow_pos (by decide))), IntKind.wrap_u8']
    rw [e _ rfl] at hset
    simp only [Int.toNat_natCast]
    rw [e _ rfl]
    rcases (by omega : k = 0 ∨ k = 1 ∨ k = 2 ∨ k = 3 ∨ k = 4 ∨ k = 5 ∨ k = 6 ∨ k = 7) with rfl | rfl | rfl | rfl | rfl | rfl | rfl | rfl <;> simpa [wordB, List.replicate] using hset
  · simp only [decide_eq_false_iff_not] at hge
    have hk8 : k = 8 := by omega
    subst hk8
    exact ⟨_, rfl, a, 8, c, rfl, by simpa [wordB] using ho2, hg2⟩

theorem Take_ok {b : Option Addr} {n c : Nat} {l : List Int} {w : World} (hs : Sl w b (Enc.int .u8) l) (hb : Bytes l) (hn : n = l.length) (hn' : l.length ≤ 9223372036854775807) :
    CallsW Try.prog 45 [.slice b n c] w (Rets fun v w' => v = .tuple #[.int .u64 (takeB l).1, .int .i64 (takeB l).2.1, .int .i64 (takeB l).2.2] ∧ w' = w) := by
  refine sx45.ok ?_
  unfold sx45
  refine ⟨fun x i w' => ∃ k : Nat, i = k ∧ k ≤ 9 ∧ k ≤ n ∧ 0 ≤ x ∧ x < 2 ^ (7 * k) ∧ takeB l = takeGo k x (l.drop k) ∧ w' = w, fun _ i _ => 10 - i.toNat, ⟨0, rfl, by decide, Nat.zero_le _, by decide, by decide, rfl, rfl⟩, ?_⟩
  rintro x i w' ⟨k, rfl, hk9, hkn, hx0, hx1, ht, rfl⟩
  subst hn
  refine ⟨fun hlt => ?_, fun hge => ?_⟩
  · simp only [decide_eq_true_eq] at hlt
    obtain ⟨d, y, rfl, hy, hcell⟩ := hs.at_ (n := k) (by omega) hlt
    have hyb := hb.get hy
    simp only [Int.toNat_natCast] at hy
    rw [drop_cons hy, takeGo_cons] at ht
    refine ⟨by omega, y, by simpa [CellsAt, Enc.int, Addr.add_zero'] using hcell.1, ?_⟩
    have hwrap : IntKind.i64.wrap ((7 : Int) * (k : Int)) = ((7 * k : Nat) : Int) := by rw [IntKind.wrap_i64]; omega
    have hmin : min (((7 * k : Nat) : Int)).toNat (IntKind.bits .u64) = 7 * k := by rw [Int.toNat_natCast, show IntKind.bits .u64 = 64 from rfl]; omega
    have hp := pow7 hk9
    have hpp : (0 : Int) < 2 ^ (7 * k) := Int.pow_pos (by decide)
    have hm : 0 ≤ y % 128 ∧ y % 128 < 128 := by omega
    have hand := sx_andNot128 hyb.1 hyb.2
    have hw128 : IntKind.u64.wrap (y % 128) = y % 128 := by rw [IntKind.wrap_u64]; omega
    have hnext : IntKind.i64.wrap ((k : Int) + 1) = ((k + 1 : Nat) : Int) := by rw [IntKind.wrap_i64]; omega
    -- the parts of a byte
    have hprod : (k = 9 → y ≤ 1) → y % 128 * 2 ^ (7 * k) < u64m := by
      intro h9
      by_cases h : k = 9
      · subst h
        have := h9 rfl
        have : y % 128 ≤ 1 := by omega
        have : y % 128 * 2 ^ (7 * 9) ≤ 1 * 2 ^ (7 * 9) := Int.mul_le_mul_of_nonneg_right this (by decide)
        exact Int.lt_of_le_of_lt this (by decide)
      · have h8 : (2 : Int) ^ (7 * k) ≤ 2 ^ 56 := by exact_mod_cast Nat.pow_le_pow_right (by decide : 0 < 2) (by omega : 7 * k ≤ 56)
        have : y % 128 * 2 ^ (7 * k) ≤ 128 * 2 ^ 56 := Int.mul_le_mul (by omega) h8 (Int.le_of_lt hpp) (by decide)
        exact Int.lt_of_le_of_lt this (by decide)
    have tail : (k = 9 → y ≤ 1) → ∀ n7 : Int, n7 = IntKind.u64.wrap (Go.bits .andNot .u8 y 128) → ∀ n8 : Int, n8 = IntKind.i64.wrap ((7 : Int) * (k : Int)) → 0 ≤ n8 ∧ ∀ n9 : Int, n9 = IntKind.u64.wrap (n7 * 2 ^ (min n8.toNat (IntKind.bits .u64))) → n9 = y % 128 * 2 ^ (7 * k) ∧ Go.bits .or .u64 x n9 = x + y % 128 * 2 ^ (7 * k) ∧ 0 ≤ x + y % 128 * 2 ^ (7 * k) ∧ x + y % 128 * 2 ^ (7 * k) < 2 ^ (7 * (k + 1)) := by
      rintro h9 n7 rfl n8 rfl
      rw [hwrap]
      refine ⟨by omega, ?_⟩
      rintro n9 rfl
      rw [hand, hw128, hmin]
      have hq := hprod h9
      have hq0 : 0 ≤ y % 128 * 2 ^ (7 * k) := Int.mul_nonneg hm.1 (Int.le_of_lt hpp)
      have hwr : IntKind.u64.wrap (y % 128 * 2 ^ (7 * k)) = y % 128 * 2 ^ (7 * k) := by rw [IntKind.wrap_u64]; exact Int.emod_eq_of_lt hq0 hq
      rw [hwr]
      refine ⟨rfl, sx_or_add _ hx0 hx1 hm.1 hq (by omega), by omega, ?_⟩
      rw [pow7_step]
      have : y % 128 * 2 ^ (7 * k) ≤ 127 * 2 ^ (7 * k) := Int.mul_le_mul_of_nonneg_right (by omega) (Int.le_of_lt hpp)
      omega
    have h128 : (Go.bits .and .u8 y 128 != 0) = decide (128 ≤ y) := by rw [sx_and128 hyb.1 hyb.2]; by_cases h : 128 ≤ y <;> simp [h]
    rw [h128]
    refine ⟨fun h9 => ⟨fun h1 => ?_, fun h1 n7 e7 n8 e8 => ?_⟩, fun h9 n7 e7 n8 e8 => ?_⟩
    · simp only [beq_iff_eq] at h9
      simp only [decide_eq_true_eq] at h1
      rw [if_pos ⟨by omega, h1⟩] at ht
      exact ⟨_, rfl, by rw [ht], rfl⟩
    all_goals
      simp only [beq_iff_eq, beq_eq_false_iff_ne, ne_eq, decide_eq_false_iff_not] at h9
      have hc : k = 9 → y ≤ 1 := by first | (simp only [decide_eq_false_iff_not] at h1; omega) | omega
      have hno : ¬ (k = 9 ∧ 1 < y) := by omega
      rw [if_neg hno] at ht
      refine ⟨(tail hc n7 e7 n8 e8).1, fun n9 e9 => ?_⟩
      obtain ⟨e9', hor, hs0, hs1⟩ := (tail hc n7 e7 n8 e8).2 n9 e9
      rw [hor, hnext]
      refine ⟨fun hm => ?_, fun hm => ?_⟩
      · simp only [decide_eq_true_eq] at hm
        rw [if_pos hm] at ht
        exact ⟨⟨k + 1, rfl, by omega, by omega, hs0, hs1, ht, rfl⟩, by show 10 - (((k + 1 : Nat) : Int)).toNat < 10 - ((k : Int)).toNat; omega⟩
      · simp only [decide_eq_false_iff_not] at hm
        rw [if_neg hm] at ht
        have fin : ¬ (y = 0 ∧ 0 < k) → takeB l = (x + y % 128 * 2 ^ (7 * k), ((k + 1 : Nat) : Int), 0) := fun h => by rw [ht, if_neg h]; simp
        refine ⟨fun hz => ⟨fun hk => ?_, fun hk => ?_⟩, fun hz => ?_⟩
        · simp only [beq_iff_eq] at hz
          simp only [decide_eq_true_eq] at hk
          rw [if_pos ⟨hz, by omega⟩] at ht
          exact ⟨_, rfl, by rw [ht], rfl⟩
        · simp only [decide_eq_false_iff_not] at hk
          exact ⟨_, rfl, by rw [fin (by omega)], rfl⟩
        · simp only [beq_eq_false_iff_ne, ne_eq] at hz
          exact ⟨_, rfl, by rw [fin (by omega)], rfl⟩
  · simp only [decide_eq_false_iff_not] at hge
    rw [drop_all (by omega)] at ht
    exact ⟨_, rfl, by rw [ht]; rfl, rfl⟩

theorem TakeWord_ok {b : Option Addr} {n c : Nat} {l : List Int} {w : World} (hs : Sl w b (Enc.int .u8) l) (hb : Bytes l) (hn : n = l.length) (hc : n ≤ c) :
    CallsW Try.prog 55 [.slice b n c] w (Rets fun v w' => v = .tuple #[.int .u64 (takeWordB l).1, .int .i64 (takeWordB l).2] ∧ w' = w) := by
  refine sx55.ok ?_
  unfold sx55
  subst hn
  refine ⟨fun hlt => ?_, fun hge => ?_⟩
  · simp only [decide_eq_true_eq] at hlt
    exact ⟨_, rfl, by rw [takeWordB, if_pos (by omega)], rfl⟩
  simp only [decide_eq_false_iff_not] at hge
  have hspec : takeWordB l = (unwordB (l.take 8), 0) := by rw [takeWordB, if_neg (by omega)]
  refine ⟨by omega, fun x i w' => ∃ k : Nat, i = k ∧ k ≤ 8 ∧ x = unwordB (l.take k) ∧ w' = w, fun _ i _ => 8 - i.toNat, ⟨0, rfl, by decide, rfl, rfl⟩, ?_⟩
  rintro x i w' ⟨k, rfl, hk, rfl, rfl⟩
  refine ⟨fun hlt => ?_, fun hge' => ?_⟩
  · simp only [decide_eq_true_eq] at hlt
    have hk8 : k < 8 := by omega
    obtain ⟨d, y, rfl, hy, hcell⟩ := hs.at_ (n := k) (by omega) (by omega)
    have hyb := hb.get hy
    simp only [Int.toNat_natCast] at hy
    refine ⟨by omega, y, by simpa [CellsAt, Enc.int, Addr.add_zero'] using hcell.1, ?_⟩
    have hwrap : IntKind.i64.wrap ((8 : Int) * (k : Int)) = ((8 * k : Nat) : Int) := by rw [IntKind.wrap_i64]; omega
    have hmin : min (((8 * k : Nat) : Int)).toNat (IntKind.bits .u64) = 8 * k := by rw [Int.toNat_natCast, show IntKind.bits .u64 = 64 from rfl]; omega
    rintro n7 rfl
    rw [hwrap]
    refine ⟨by omega, ?_⟩
    rintro n8 rfl
    rw [hmin]
    have hyw : IntKind.u64.wrap y = y := by rw [IntKind.wrap_u64]; omega
    have hpp : (0 : Int) < 2 ^ (8 * k) := Int.pow_pos (by decide)
    have hp : (2 : Int) ^ (8 * k) ≤ 2 ^ 56 := by exact_mod_cast Nat.pow_le_pow_right (by decide : 0 < 2) (by omega : 8 * k ≤ 56)
    have hq0 : 0 ≤ y * 2 ^ (8 * k) := Int.mul_nonneg hyb.1 (Int.le_of_lt hpp)
    have hq : y * 2 ^ (8 * k) < u64m := Int.lt_of_le_of_lt (Int.mul_le_mul (show y ≤ 255 by omega) hp (Int.le_of_lt hpp) (by decide)) (by decide)
    have hwr : IntKind.u64.wrap (y * 2 ^ (8 * k)) = y * 2 ^ (8 * k) := by rw [IntKind.wrap_u64]; exact Int.emod_eq_of_lt hq0 hq
    have hlen : (l.take k).length = k := by simp; omega
    have hbd := unwordB_bound _ (hb.take k)
    rw [hlen] at hbd
    rw [hyw, hwr, sx_or_add _ hbd.1 hbd.2 hyb.1 hq (by omega)]
    have hnext : IntKind.i64.wrap ((k : Int) + 1) = ((k + 1 : Nat) : Int) := by rw [IntKind.wrap_i64]; omega
    rw [hnext]
    have hsn := unwordB_snoc (l.take k) y
    rw [hlen, ← take_snoc hy] at hsn
    exact ⟨⟨k + 1, rfl, hk8, hsn.symm, rfl⟩, by show 8 - (((k + 1 : Nat) : Int)).toNat < 8 - ((k : Int)).toNat; omega⟩
  · simp only [decide_eq_false_iff_not] at hge'
    have hk8 : k = 8 := by omega
    subst hk8
    exact ⟨_, rfl, by rw [hspec], rfl⟩
end Go.Proofs.Ytnbknhcpjggabaa
