/- The reference's reading of words. Conditions: none. -/
import Derived.Test.YtbmmaibbiahkkaaGreatDoorProg
import Derived.Test.YtbmmaibbiahkkaaGreatDoorScrF
namespace Go.Proofs.YtbmmaibbiahkkaaGreatDoor
open Go.Sx
set_option maxRecDepth 100000
set_option linter.unusedVariables false
set_option linter.unusedSimpArgs false
def sx47 (s : ByteArray) (R : Ending → World → Prop) (w : World) : Prop :=
 ∃ J1 : World → Prop, (ifB (((ByteArray.size s : Nat) : Int) == 0) (R (.returned (.tuple #[.int .u64 0, .bool false])) w) (ifB (decide (((ByteArray.size s : Nat) : Int) > 1)) (∃ (b2 : UInt8), (0 ≤ (0 : Int) ∧ (s).data[(0 : Int).toNat]? = some b2) ∧ ifB ((b2.toNat : Int) == 48) (R (.returned (.tuple #[.int .u64 0, .bool false])) w) (J1 w)) (J1 w))) ∧ ∀ w3, J1 w3 → ∃ (I4 : Int → Int → World → Prop) (m4 : Int → Int → World → Nat), I4 0 0 w3 ∧ ∀ n5 n6 w7, I4 n5 n6 w7 → ifB (decide (n6 < ((ByteArray.size s : Nat) : Int))) (∃ (b8 : UInt8), (0 ≤ n6 ∧ (s).data[n6.toNat]? = some b8) ∧ ifB (decide ((b8.toNat : Int) < 48)) (R (.returned (.tuple #[.int .u64 0, .bool false])) w7) (∃ (b9 : UInt8), (0 ≤ n6 ∧ (s).data[n6.toNat]? = some b9) ∧ ifB (decide ((b9.toNat : Int) > 57)) (R (.returned (.tuple #[.int .u64 0, .bool false])) w7) (∃ (b10 : UInt8), (0 ≤ n6 ∧ (s).data[n6.toNat]? = some b10) ∧ ∀ n11 : Int, n11 = IntKind.u8.wrap ((b10.toNat : Int) - 48) → ∀ n12 : Int, n12 = IntKind.u64.wrap ((18446744073709551615 : Int) - (IntKind.u64.wrap n11)) → (((10 : Int) = 0 → R (.panicked (J0 Tryz.prog)) w7) ∧ ((10 : Int) ≠ 0 → ∀ n13 : Int, n13 = IntKind.u64.wrap (Int.tdiv n12 10) → ifB (decide (n5 > n13)) (R (.returned (.tuple #[.int .u64 0, .bool false])) w7) (∀ n14 : Int, n14 = IntKind.u64.wrap ((IntKind.u64.wrap (n5 * 10)) + (IntKind.u64.wrap n11)) → (I4 n14 (IntKind.i64.wrap (n6 + 1)) w7 ∧ m4 n14 (IntKind.i64.wrap (n6 + 1)) w7 < m4 n5 n6 w7))))))) (R (.returned (.tuple #[.int .u64 n5, .bool true])) w7)
theorem sx47.ok {s : ByteArray} {R : Ending → World → Prop} {w : World} (h : sx47 s R w) : Aa Tryz.prog 47 [.string s] w R :=
 okOf { named := [39, 43, 44, 49], loops := [(5, { slots := [(4, .int .u64), (5, .int .i64)], cells := [] })], cuts := [(3, { slots := [], cells := [] })] } mix Tryz.func47 (by kernel_rfl) (by kernel_rfl) (by kernel_rfl) h
def sx45 (s : ByteArray) (R : Ending → World → Prop) (w : World) : Prop :=
 ∃ J1 : Bool → World → Prop, (ifB (decide (((ByteArray.size s : Nat) : Int) > 0)) (∃ (b2 : UInt8), (0 ≤ (0 : Int) ∧ (s).data[(0 : Int).toNat]? = some b2) ∧ J1 ((b2.toNat : Int) == 45) w) (J1 false w)) ∧ ∀ b3 w4, J1 b3 w4 → ∃ J5 : ByteArray → World → Prop, (ifB b3 ((0 ≤ (1 : Int) ∧ (1 : Int) ≤ (ByteArray.size s : Nat)) ∧ J5 (ByteArray.extract s (1 : Int).toNat (ByteArray.size s)) w4) (J5 s w4)) ∧ ∀ s6 w7, J5 s6 w7 → Aa Tryz.prog 47 [.string s6] w7 (RetR R fun u9 w8 => ∃ n10 b11, u9 = .tuple #[.int .u64 n10, .bool b11] ∧ ifB (!b11) (R (.returned (.tuple #[.int .i64 0, .bool false])) w8) (ifB b3 (ifB (n10 == 0) (R (.returned (.tuple #[.int .i64 0, .bool false])) w8) (ifB (decide (n10 > 9223372036854775808)) (R (.returned (.tuple #[.int .i64 0, .bool false])) w8) (ifB (!b3) (ifB (decide (n10 > 9223372036854775807)) (R (.returned (.tuple #[.int .i64 0, .bool false])) w8) (ifB b3 (∀ n13 : Int, n13 = IntKind.i64.wrap (IntKind.u64.wrap (n10 - 1)) → ∀ n14 : Int, n14 = IntKind.i64.wrap ((IntKind.i64.wrap (0 - n13)) - 1) → R (.returned (.tuple #[.int .i64 n14, .bool true])) w8) (R (.returned (.tuple #[.int .i64 (IntKind.i64.wrap n10), .bool true])) w8))) (ifB b3 (∀ n15 : Int, n15 = IntKind.i64.wrap (IntKind.u64.wrap (n10 - 1)) → ∀ n16 : Int, n16 = IntKind.i64.wrap ((IntKind.i64.wrap (0 - n15)) - 1) → R (.returned (.tuple #[.int .i64 n16, .bool true])) w8) (R (.returned (.tuple #[.int .i64 (IntKind.i64.wrap n10), .bool true])) w8))))) (ifB (!b3) (ifB (decide (n10 > 9223372036854775807)) (R (.returned (.tuple #[.int .i64 0, .bool false])) w8) (ifB b3 (∀ n17 : Int, n17 = IntKind.i64.wrap (IntKind.u64.wrap (n10 - 1)) → ∀ n18 : Int, n18 = IntKind.i64.wrap ((IntKind.i64.wrap (0 - n17)) - 1) → R (.returned (.tuple #[.int .i64 n18, .bool true])) w8) (R (.returned (.tuple #[.int .i64 (IntKind.i64.wrap n10), .bool true])) w8))) (ifB b3 (∀ n19 : Int, n19 = IntKind.i64.wrap (IntKind.u64.wrap (n10 - 1)) → ∀ n20 : Int, n20 = IntKind.i64.wrap ((IntKind.i64.wrap (0 - n19)) - 1) → R (.returned (.tuple #[.int .i64 n20, .bool true])) w8) (R (.returned (.tuple #[.int .i64 (IntKind.i64.wrap n10), .bool true])) w8)))))
theorem sx45.ok {s : ByteArray} {R : Ending → World → Prop} {w : World} (h : sx45 s R w) : Aa Tryz.prog 45 [.string s] w R :=
 okOf { named := [47, 49], cuts := [(2, { slots := [(4, .bool)], cells := [] }), (4, { slots := [(0, .string)], cells := [] })] } mix Tryz.func45 (by kernel_rfl) (by kernel_rfl) (by kernel_rfl) h
def sx46 (s : ByteArray) (R : Ending → World → Prop) (w : World) : Prop :=
 ifB (((ByteArray.size s : Nat) : Int) != 16) (R (.returned (.tuple #[.float .f64 0, .bool false])) w) (∃ (I1 : Int → Int → World → Prop) (m1 : Int → Int → World → Nat), I1 0 0 w ∧ ∀ n2 n3 w4, I1 n2 n3 w4 → ifB (decide (n3 < 16)) (∃ (b5 : UInt8), (0 ≤ n3 ∧ (s).data[n3.toNat]? = some b5) ∧ ifB (decide ((b5.toNat : Int) ≥ 48)) (ifB (decide ((b5.toNat : Int) ≤ 57)) (∀ n6 : Int, n6 = IntKind.u8.wrap ((b5.toNat : Int) - 48) → ∀ n7 : Int, n7 = IntKind.u64.wrap ((IntKind.u64.wrap (n2 * 16)) + (IntKind.u64.wrap n6)) → (I1 n7 (IntKind.i64.wrap (n3 + 1)) w4 ∧ m1 n7 (IntKind.i64.wrap (n3 + 1)) w4 < m1 n2 n3 w4)) (ifB (decide ((b5.toNat : Int) ≥ 97)) (ifB (decide ((b5.toNat : Int) ≤ 102)) (∀ n8 : Int, n8 = IntKind.u8.wrap ((b5.toNat : Int) - 97) → ∀ n9 : Int, n9 = IntKind.u64.wrap ((IntKind.u64.wrap (n2 * 16)) + (IntKind.u64.wrap n8)) → ∀ n10 : Int, n10 = IntKind.u64.wrap (n9 + 10) → (I1 n10 (IntKind.i64.wrap (n3 + 1)) w4 ∧ m1 n10 (IntKind.i64.wrap (n3 + 1)) w4 < m1 n2 n3 w4)) (R (.returned (.tuple #[.float .f64 0, .bool false])) w4)) (R (.returned (.tuple #[.float .f64 0, .bool false])) w4))) (ifB (decide ((b5.toNat : Int) ≥ 97)) (ifB (decide ((b5.toNat : Int) ≤ 102)) (∀ n11 : Int, n11 = IntKind.u8.wrap ((b5.toNat : Int) - 97) → ∀ n12 : Int, n12 = IntKind.u64.wrap ((IntKind.u64.wrap (n2 * 16)) + (IntKind.u64.wrap n11)) → ∀ n13 : Int, n13 = IntKind.u64.wrap (n12 + 10) → (I1 n13 (IntKind.i64.wrap (n3 + 1)) w4 ∧ m1 n13 (IntKind.i64.wrap (n3 + 1)) w4 < m1 n2 n3 w4)) (R (.returned (.tuple #[.float .f64 0, .bool false])) w4)) (R (.returned (.tuple #[.float .f64 0, .bool false])) w4))) (Aa Tryz.prog 67 [.int .u64 n2] w4 (RetR R fun u15 w14 => ∃ x16, u15 = .float .f64 x16 ∧ R (.returned (.tuple #[.float .f64 x16, .bool true])) w14)))
theorem sx46.ok {s : ByteArray} {R : Ending → World → Prop} {w : World} (h : sx46 s R w) : Aa Tryz.prog 46 [.string s] w R :=
 okOf { named := [27, 29, 40, 42, 43], loops := [(5, { slots := [(4, .int .u64), (5, .int .i64)], cells := [] })] } mix Tryz.func46 (by kernel_rfl) (by kernel_rfl) (by kernel_rfl) h
def sx67 (b : Int) (R : Ending → World → Prop) (w : World) : Prop :=
 Aa Tryz.prog 65 [.int .u64 b] w (RetR R fun u2 w1 => ∃ x3, u2 = .float .f64 x3 ∧ R (.returned (.float .f64 x3)) w1)
theorem sx67.ok {b : Int} {R : Ending → World → Prop} {w : World} (h : sx67 b R w) : Aa Tryz.prog 67 [.int .u64 b] w R :=
 okOf {} mix Tryz.func67 (by kernel_rfl) (by kernel_rfl) (by kernel_rfl) h
def keyR : Option Nat → Value
 | some n => .tuple #[.int .u64 (n : Int), .bool true]
 | none => .tuple #[.int .u64 0, .bool false]
def numR : Option Int → Value
 | some n => .tuple #[.int .i64 n, .bool true]
 | none => .tuple #[.int .i64 0, .bool false]
def fltR : Option Nat → Value
 | some n => .tuple #[.float .f64 n, .bool true]
 | none => .tuple #[.float .f64 0, .bool false]
theorem If {c : Nat} (h : 48 ≤ c) (h2 : c < 256) : IntKind.u8.wrap ((c : Int) - 48) = ((c - 48 : Nat) : Int) := by rw [IntKind.wrap_u8]; omega
theorem E0 {n : Nat} (h : n < 18446744073709551616) : IntKind.u64.wrap (n : Int) = n := by rw [IntKind.wrap_u64]; omega
theorem Bj {j : Nat} (h : j < 9223372036854775807) : IntKind.i64.wrap ((j : Int) + 1) = ((j + 1 : Nat) : Int) := by rw [IntKind.wrap_i64]; omega
theorem Nq {d : Nat} (h : d ≤ 9) : IntKind.u64.wrap (Int.tdiv (IntKind.u64.wrap ((18446744073709551615 : Int) - (d : Int))) 10) = (((18446744073709551615 - d) / 10 : Nat) : Int) := by
 have e : IntKind.u64.wrap ((18446744073709551615 : Int) - (d : Int)) = ((18446744073709551615 - d : Nat) : Int) := by rw [IntKind.wrap_u64]; omega
 rw [e, Int.tdiv_eq_ediv_of_nonneg (by omega)]
 rw [IntKind.wrap_u64]; omega
theorem Nr {n d : Nat} (h : n ≤ (18446744073709551615 - d) / 10) (hd : d ≤ 9) : IntKind.u64.wrap (IntKind.u64.wrap ((n : Int) * 10) + (d : Int)) = ((n * 10 + d : Nat) : Int) ∧ n * 10 + d < 18446744073709551616 := by
 have e : IntKind.u64.wrap ((n : Int) * 10) = ((n * 10 : Nat) : Int) := by rw [IntKind.wrap_u64]; omega
 rw [e]
 refine ⟨?_, by omega⟩
 rw [IntKind.wrap_u64]; omega
theorem L4 {s : L8} {w : World} (hs : s.length ≤ 1000000000) : Aa Tryz.prog 47 [.string (bs s)] w (Rets fun v w' => v = keyR (keyL s) ∧ w' = w) := by
 refine sx47.ok ?_
 unfold sx47
 have no : (s = [] ∨ (∃ c ∈ s, ¬ isDg c) ∨ (1 < s.length ∧ ∃ c r, s = c :: r ∧ c.toNat = 48) ∨ 18446744073709551616 ≤ natD 0 s) → ∀ w', w' = w → Rets (fun v w' => v = keyR (keyL s) ∧ w' = w) (.returned (.tuple #[.int .u64 0, .bool false])) w' := fun h w' hw =>
  ⟨_, rfl, by rw [L0 h]; rfl, hw⟩
 rw [Ao]
 refine ⟨fun w' => w' = w ∧ s ≠ [] ∧ (s.length = 1 ∨ ∃ c r, s = c :: r ∧ c.toNat ≠ 48), ⟨fun h0 => ?_, fun h0 => ⟨fun h1 => ?_, fun h1 => ?_⟩⟩, ?_⟩
 ·exact no (.inl (List.eq_nil_of_length_eq_zero (by simpa using h0))) _ rfl
 ·simp only [decide_eq_true_eq] at h1
  obtain ⟨c, r, rfl⟩ : ∃ c r, s = c :: r := by
   cases s with
   | nil => simp at h1
   | cons c r => exact ⟨c, r, rfl⟩
  refine ⟨c, ⟨by omega, by rw [Do]; rfl⟩, fun h => no (.inr (.inr (.inl ⟨by omega, c, r, rfl, by simp only [beq_iff_eq] at h; omega⟩))) _ rfl, fun h => ⟨rfl, by simp, .inr ⟨c, r, rfl, fun e => ?_⟩⟩⟩
  rw [e] at h; simp at h
 ·simp only [decide_eq_false_iff_not] at h1
  have hne : s ≠ [] := fun e => by subst e; simp at h0
  have : s.length ≠ 0 := fun e => hne (List.eq_nil_of_length_eq_zero e)
  exact ⟨rfl, hne, .inl (by omega)⟩
 rintro w3 ⟨hw3, hne, hhd⟩
 refine ⟨fun n i w' => ∃ j : Nat, i = j ∧ j ≤ s.length ∧ (∀ c ∈ s.take j, isDg c) ∧ n = (natD 0 (s.take j) : Nat) ∧ natD 0 (s.take j) < 18446744073709551616 ∧ w' = w, fun _ i _ => s.length - i.toNat,
  ⟨0, rfl, Nat.zero_le _, by simp, by simp [C7], by simp [C7], hw3⟩, ?_⟩
 rintro n i w7 ⟨j, rfl, hj, hd, rfl, hlt64, hw7⟩
 refine ⟨fun hlt => ?_, fun hge => ?_⟩
 ·simp only [decide_eq_true_eq] at hlt
  have hjl : j < s.length := by omega
  have hget : (bs s).data[((j : Nat) : Int).toNat]? = some s[j] := by rw [Int.toNat_natCast, Do, List.getElem?_eq_getElem hjl]
  have hmem : s[j] ∈ s := List.getElem_mem _
  have h256 := (s[j]).toNat_lt
  refine ⟨s[j], ⟨by omega, hget⟩, fun h => no (.inr (.inl ⟨_, hmem, fun hg => ?_⟩)) _ hw7, fun hlo => ⟨s[j], ⟨by omega, hget⟩, fun h => no (.inr (.inl ⟨_, hmem, fun hg => ?_⟩)) _ hw7, fun hhi => ⟨s[j], ⟨by omega, hget⟩, ?_⟩⟩⟩
  ·simp only [decide_eq_true_eq] at h; unfold isDg at hg; omega
  ·simp only [decide_eq_true_eq] at h; unfold isDg at hg; omega
  simp only [decide_eq_false_iff_not] at hlo hhi
  have htk : natD 0 (s.take (j + 1)) = natD 0 (s.take j) * 10 + ((s[j]).toNat - 48) := by rw [List.take_succ_eq_append_getElem hjl, Gq]
  rintro n11 rfl n12 rfl
  rw [If (by omega) (by omega), E0 (n := (s[j]).toNat - 48) (by omega)]
  refine ⟨fun h => (by cases h), fun _ => ?_⟩
  rintro n13 rfl
  rw [Nq (by omega)]
  refine ⟨fun hov => no (.inr (.inr (.inr ?_))) _ hw7, fun hin => ?_⟩
  ·simp only [decide_eq_true_eq] at hov
   have hge := Ha (s.drop (j + 1)) (natD 0 (s.take (j + 1)))
   rw [← Ke, List.take_append_drop] at hge
   omega
  ·simp only [decide_eq_false_iff_not] at hin
   rintro n14 rfl
   obtain ⟨k1, k2⟩ := Nr (n := natD 0 (s.take j)) (d := (s[j]).toNat - 48) (by omega) (by omega)
   rw [k1, Bj (by omega)]
   refine ⟨⟨j + 1, rfl, hjl, fun c hc => ?_, by rw [htk], by rw [htk]; exact k2, hw7⟩, ?_⟩
   ·rw [List.take_succ_eq_append_getElem hjl, List.mem_append, List.mem_singleton] at hc
    rcases hc with hc | rfl
    ·exact hd c hc
    ·unfold isDg; omega
   ·show s.length - (((j + 1 : Nat) : Int)).toNat < s.length - ((j : Nat) : Int).toNat; omega
 ·simp only [decide_eq_false_iff_not] at hge
  have : j = s.length := by omega
  subst this
  rw [List.take_length] at hd hlt64 ⊢
  exact ⟨_, rfl, by rw [Ol hne hd hhd hlt64]; rfl, hw7⟩
theorem C9 {s : L8} {w : World} (hs : s.length ≤ 1000000000) : Aa Tryz.prog 45 [.string (bs s)] w (Rets fun v w' => v = numR (numL s) ∧ w' = w) := by
 refine sx45.ok ?_
 unfold sx45
 rw [Ao]
 obtain ⟨neg, r, hcase⟩ : ∃ (neg : Bool) (r : L8), (neg = true ∧ s = 45 :: r) ∨ (neg = false ∧ r = s ∧ ∀ c t, s = c :: t → c ≠ 45) := by
  cases s with
  | nil => exact ⟨false, [], .inr ⟨rfl, rfl, fun c t h => by cases h⟩⟩
  | cons c t =>
   by_cases h : c = 45
   ·exact ⟨true, t, .inl ⟨rfl, by rw [h]⟩⟩
   ·exact ⟨false, _, .inr ⟨rfl, rfl, fun c' t' e => by cases e; exact h⟩⟩
 refine ⟨fun b w' => b = neg ∧ w' = w, ⟨fun h0 => ?_, fun h0 => ?_⟩, ?_⟩
 ·simp only [decide_eq_true_eq] at h0
  obtain ⟨c, t, rfl⟩ : ∃ c t, s = c :: t := by
   cases s with
   | nil => simp at h0
   | cons c t => exact ⟨c, t, rfl⟩
  refine ⟨c, ⟨by omega, by rw [Do]; rfl⟩, ?_, rfl⟩
  rcases hcase with ⟨rfl, e⟩ | ⟨rfl, -, h⟩
  ·cases e; rfl
  ·rw [beq_eq_false_iff_ne]
   intro e
   exact h c t rfl (UInt8.toNat_inj.1 (by show c.toNat = 45; omega))
 ·simp only [decide_eq_false_iff_not] at h0
  have : s = [] := List.eq_nil_of_length_eq_zero (by omega)
  rcases hcase with ⟨-, e⟩ | ⟨h, -, -⟩
  ·rw [this] at e; cases e
  ·exact ⟨h.symm, rfl⟩
 rintro b3 w4 ⟨rfl, hw4⟩
 refine ⟨fun t w' => t = bs r ∧ w' = w, ⟨fun hb => ?_, fun hb => ?_⟩, ?_⟩
 ·rcases hcase with ⟨-, e⟩ | ⟨h, -, -⟩
  ·refine ⟨⟨by omega, by rw [e]; simp only [List.length_cons]; omega⟩, ?_, hw4⟩
   rw [Eb, e, List.take_length]; rfl
  ·rw [h] at hb; cases hb
 ·rcases hcase with ⟨h, -⟩ | ⟨-, e, -⟩
  ·rw [h] at hb; cases hb
  ·exact ⟨by rw [e], hw4⟩
 rintro s6 w7 ⟨rfl, hw7⟩
 rw [hw7]
 have hrl : r.length ≤ 1000000000 := by
  rcases hcase with ⟨-, e⟩ | ⟨-, e, -⟩
  ·rw [e] at hs; simp only [List.length_cons] at hs; omega
  ·rw [e]; exact hs
 have hnl : numL s = if b3 = true then (match keyL r with | some n => if n = 0 ∨ 9223372036854775808 < n then none else some (-(n : Int)) | none => none) else (match keyL r with | some n => if 9223372036854775807 < n then none else some (n : Int) | none => none) := by
  rcases hcase with ⟨rfl, rfl⟩ | ⟨rfl, rfl, h⟩
  ·simp only [numL, if_true]; cases keyL r <;> rfl
  ·rw [if_neg (by simp)]
   cases hr : r with
   | nil => rw [L0 (.inl rfl)]; rfl
   | cons c t =>
    unfold numL
    simp only
    rw [if_neg (h c t hr)]
    cases keyL (c :: t) <;> rfl
 refine (L4 hrl).use fun v w8 ⟨hv, hw⟩ => ?_
 subst hv
 have no : numL s = none → Rets (fun v w' => v = numR (numL s) ∧ w' = w) (.returned (.tuple #[.int .i64 0, .bool false])) w8 := fun h => ⟨_, rfl, by rw [h]; rfl, hw⟩
 cases hk : keyL r with
 | none =>
  rw [hk] at hnl
  refine ⟨_, _, rfl, fun _ => no (by rw [hnl]; split <;> rfl), fun h => (by cases h)⟩
 | some n =>
  rw [hk] at hnl
  have hn := (Ck.1 hk).2
  refine ⟨_, _, rfl, fun h => (by cases h), fun _ => ⟨fun hb => ⟨fun h0 => no ?_, fun h0 => ⟨fun hgt => no ?_, fun hle => ⟨fun h => ?_, fun _ => ⟨fun _ => ?_, fun h => ?_⟩⟩⟩⟩, fun hb => ⟨fun _ => ⟨fun hgt => no ?_, fun hle => ⟨fun h => ?_, fun _ => ?_⟩⟩, fun h => ?_⟩⟩⟩
  ·have h0' : n = 0 := by simp only [beq_iff_eq] at h0; omega
   rw [hnl, if_pos hb]; simp only; rw [if_pos (.inl h0')]
  ·simp only [decide_eq_true_eq] at hgt
   rw [hnl, if_pos hb]; simp only; rw [if_pos (.inr (by omega))]
  ·rw [hb] at h; cases h
  ·simp only [decide_eq_false_iff_not] at hle
   have h0' : n ≠ 0 := fun e => by rw [e] at h0; simp at h0
   rintro n15 rfl n16 rfl
   refine ⟨_, rfl, ?_, hw⟩
   rw [hnl, if_pos hb]; simp only; rw [if_neg (by omega)]
   have e1 : IntKind.u64.wrap ((n : Int) - 1) = ((n - 1 : Nat) : Int) := by rw [IntKind.wrap_u64]; omega
   have e2 : IntKind.i64.wrap ((n - 1 : Nat) : Int) = ((n - 1 : Nat) : Int) := by rw [IntKind.wrap_i64]; omega
   have e3 : IntKind.i64.wrap (0 - ((n - 1 : Nat) : Int)) = -((n - 1 : Nat) : Int) := by rw [IntKind.wrap_i64]; omega
   rw [e1, e2, e3]
   have e4 : IntKind.i64.wrap (-((n - 1 : Nat) : Int) - 1) = -(n : Int) := by rw [IntKind.wrap_i64]; omega
   rw [e4]; rfl
  ·rw [hb] at h; cases h
  ·simp only [decide_eq_true_eq] at hgt
   rw [hnl, if_neg (by rw [hb]; simp)]; simp only; rw [if_pos (by omega)]
  ·rw [hb] at h; cases h
  ·simp only [decide_eq_false_iff_not] at hle
   refine ⟨_, rfl, ?_, hw⟩
   rw [hnl, if_neg (by rw [hb]; simp)]; simp only; rw [if_neg (by omega)]
   have e1 : IntKind.i64.wrap (n : Int) = n := by rw [IntKind.wrap_i64]; omega
   rw [e1]; rfl
  ·rw [hb] at h; cases h
theorem Ns {n : Nat} {w : World} : Aa Tryz.prog 67 [.int .u64 (n : Int)] w (Rets fun v w' => v = .float .f64 n ∧ w' = w) := by
 refine sx67.ok ?_
 unfold sx67
 refine Kr.use fun v w1 ⟨hv, hw⟩ => ?_
 subst hv
 exact ⟨_, rfl, _, rfl, by simp, hw⟩
theorem Kv {n d : Nat} (h : n < 1152921504606846976) (hd : d < 16) : IntKind.u64.wrap (IntKind.u64.wrap ((n : Int) * 16) + (d : Int)) = ((n * 16 + d : Nat) : Int) := by
 have e : IntKind.u64.wrap ((n : Int) * 16) = ((n * 16 : Nat) : Int) := by rw [IntKind.wrap_u64]; omega
 rw [e, IntKind.wrap_u64]; omega
theorem Jc {s : L8} {w : World} : Aa Tryz.prog 46 [.string (bs s)] w (Rets fun v w' => v = fltR (fltL s) ∧ w' = w) := by
 refine sx46.ok ?_
 unfold sx46
 rw [Ao]
 have no : ¬ (s.length = 16 ∧ ∀ c ∈ s, (hexV c).isSome = true) → ∀ w', w' = w → Rets (fun v w' => v = fltR (fltL s) ∧ w' = w) (.returned (.tuple #[.float .f64 0, .bool false])) w' := fun h w' hw =>
  ⟨_, rfl, by unfold fltL; rw [if_neg h]; rfl, hw⟩
 refine ⟨fun hne => no (fun h => ?_) _ rfl, fun heq => ?_⟩
 ·rw [h.1] at hne; cases hne
 have h16 : s.length = 16 := by simp only [bne_eq_false_iff_eq] at heq; omega
 refine ⟨fun n i w' => ∃ j : Nat, i = j ∧ j ≤ 16 ∧ (∀ c ∈ s.take j, (hexV c).isSome = true) ∧ n = (hexN 0 (s.take j) : Nat) ∧ w' = w, fun _ i _ => 16 - i.toNat, ⟨0, rfl, by omega, by simp, by simp [hexN], rfl⟩, ?_⟩
 rintro n i w4 ⟨j, rfl, hj, hx, rfl, hw⟩
 refine ⟨fun hlt => ?_, fun hge => ?_⟩
 ·simp only [decide_eq_true_eq] at hlt
  have hjl : j < s.length := by omega
  have hmem : s[j] ∈ s := List.getElem_mem _
  have h256 := (s[j]).toNat_lt
  have hlt1 := Ju (s.take j)
  have hle1 : (s.take j).length ≤ 15 := by rw [List.length_take]; omega
  have hb1 : hexN 0 (s.take j) < 1152921504606846976 := Nat.lt_of_lt_of_le hlt1 (by have := Nat.pow_le_pow_right (n := 16) (by decide) hle1; simpa using this)
  have htk : hexN 0 (s.take (j + 1)) = hexN 0 (s.take j) * 16 + (hexV s[j]).getD 0 := by rw [List.take_succ_eq_append_getElem hjl, Gr]
  clear hlt1
  have ew := Bj (j := j) (by omega)
  have nxt : ∀ v : Nat, hexV s[j] = some v → ∀ n : Int, n = ((hexN 0 (s.take j) * 16 + v : Nat) : Int) → (∃ j' : Nat, IntKind.i64.wrap ((j : Int) + 1) = j' ∧ j' ≤ 16 ∧ (∀ c ∈ s.take j', (hexV c).isSome = true) ∧ n = (hexN 0 (s.take j') : Nat) ∧ w4 = w) ∧ 16 - (IntKind.i64.wrap ((j : Int) + 1)).toNat < 16 - ((j : Nat) : Int).toNat := fun v hv n hn => by
   rw [ew]
   refine ⟨⟨j + 1, rfl, by omega, fun c hc => ?_, by rw [htk, hv]; exact hn, hw⟩, by clear hb1; omega⟩
   rw [List.take_succ_eq_append_getElem hjl, List.mem_append, List.mem_singleton] at hc
   rcases hc with hc | rfl
   ·exact hx c hc
   ·rw [hv]; rfl
  have nov : hexV s[j] = none → Rets (fun v w' => v = fltR (fltL s) ∧ w' = w) (.returned (.tuple #[.float .f64 0, .bool false])) w4 := fun hv => no (fun h => by have := h.2 _ hmem; rw [hv] at this; cases this) _ hw
  have hV : hexV s[j] = if 48 ≤ (s[j]).toNat ∧ (s[j]).toNat ≤ 57 then some ((s[j]).toNat - 48) else if 97 ≤ (s[j]).toNat ∧ (s[j]).toNat ≤ 102 then some ((s[j]).toNat - 87) else none := rfl
  have ltr : ∀ (h1 : 97 ≤ (s[j]).toNat) (h2 : (s[j]).toNat ≤ 102), ∀ n8 : Int, n8 = IntKind.u8.wrap (((s[j]).toNat : Int) - 97) → ∀ n9 : Int, n9 = IntKind.u64.wrap (IntKind.u64.wrap (((hexN 0 (s.take j) : Nat) : Int) * 16) + IntKind.u64.wrap n8) → ∀ n10 : Int, n10 = IntKind.u64.wrap (n9 + 10) → n10 = ((hexN 0 (s.take j) * 16 + ((s[j]).toNat - 87) : Nat) : Int) := by
   intro h1 h2
   rintro n8 rfl n9 rfl n10 rfl
   have e1 : IntKind.u8.wrap (((s[j]).toNat : Int) - 97) = (((s[j]).toNat - 97 : Nat) : Int) := by rw [IntKind.wrap_u8]; omega
   rw [e1, E0 (n := (s[j]).toNat - 97) (by omega), Kv hb1 (by omega), IntKind.wrap_u64]; omega
  refine ⟨s[j], ⟨by omega, by rw [Int.toNat_natCast, Do, List.getElem?_eq_getElem hjl]⟩, fun h48 => ⟨fun h57 => ?_, fun h57 => ⟨fun h97 => ⟨fun h102 => ?_, fun h102 => ?_⟩, fun h97 => ?_⟩⟩, fun h48 => ⟨fun h97 => ⟨fun h102 => ?_, fun h102 => ?_⟩, fun h97 => ?_⟩⟩
  ·simp only [decide_eq_true_eq] at h48 h57
   rintro n6 rfl n7 rfl
   rw [if_pos ⟨by omega, by omega⟩] at hV
   refine nxt _ hV _ ?_
   rw [If (by omega) (by omega), E0 (n := (s[j]).toNat - 48) (by omega), Kv hb1 (by omega)]
  ·simp only [decide_eq_true_eq, decide_eq_false_iff_not] at h48 h57 h97 h102
   intro n8 e8 n9 e9 n10 e10
   rw [if_neg (by omega), if_pos ⟨by omega, by omega⟩] at hV
   exact nxt _ hV _ (ltr (by omega) (by omega) n8 e8 n9 e9 n10 e10)
  ·simp only [decide_eq_true_eq, decide_eq_false_iff_not] at h48 h57 h97 h102
   rw [if_neg (by omega), if_neg (by omega)] at hV
   exact nov hV
  ·simp only [decide_eq_true_eq, decide_eq_false_iff_not] at h48 h57 h97
   rw [if_neg (by omega), if_neg (by omega)] at hV
   exact nov hV
  ·simp only [decide_eq_true_eq, decide_eq_false_iff_not] at h48 h97 h102
   intro n8 e8 n9 e9 n10 e10
   rw [if_neg (by omega), if_pos ⟨by omega, by omega⟩] at hV
   exact nxt _ hV _ (ltr (by omega) (by omega) n8 e8 n9 e9 n10 e10)
  ·simp only [decide_eq_true_eq, decide_eq_false_iff_not] at h48 h97 h102
   rw [if_neg (by omega), if_neg (by omega)] at hV
   exact nov hV
  ·simp only [decide_eq_true_eq, decide_eq_false_iff_not] at h48 h97
   rw [if_neg (by omega), if_neg (by omega)] at hV
   exact nov hV
 ·simp only [decide_eq_false_iff_not] at hge
  have : j = 16 := by omega
  subst this
  rw [← h16, List.take_length] at hx ⊢
  refine Ns.use fun v w14 ⟨hv, hw2⟩ => ?_
  subst hv
  refine ⟨_, rfl, _, rfl, ?_, hw2.trans hw⟩
  unfold fltL; rw [if_pos ⟨h16, hx⟩]; rfl
end Go.Proofs.YtbmmaibbiahkkaaGreatDoor
