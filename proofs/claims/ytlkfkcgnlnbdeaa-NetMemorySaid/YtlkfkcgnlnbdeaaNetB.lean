/- What the reference's Field, Sound, Nums and Encode of messages hand back. Conditions: none. -/
import Derived.Test.YtlkfkcgnlnbdeaaProg
import Derived.Test.YtlkfkcgnlnbdeaaRKRise
import Derived.Test.YtlkfkcgnlnbdeaaRefWord
import Derived.Test.YtlkfkcgnlnbdeaaSxR
namespace Go.Proofs.Ytlkfkcgnlnbdeaa
open Go.Sx
set_option maxRecDepth 100000
set_option linter.unusedVariables false
set_option linter.unusedSimpArgs false
/- reprise/repriseref15.Field -/
def sx49 (kind : Int) (R : Ending → World → Prop) (w : World) : Prop :=
  (((kind == 1) = true → (((kind == 1) = true → R (.returned (.int .i64 1)) w) ∧ ((kind == 1) = false → (((kind == 4) = true → R (.returned (.int .i64 2)) w) ∧ ((kind == 4) = false → (((kind == 6) = true → R (.returned
    (.int .i64 3)) w) ∧ ((kind == 6) = false → (((kind == 5) = true → (((kind == 5) = true → R (.returned (.int .i64 4)) w) ∧ ((kind == 5) = false → R (.returned (.int .i64 0)) w))) ∧ ((kind == 5) = false → (((kind == 7)
    = true → R (.returned (.int .i64 4)) w) ∧ ((kind == 7) = false → R (.returned (.int .i64 0)) w))))))))))) ∧ ((kind == 1) = false → (((kind == 2) = true → (((kind == 2) = true → R (.returned (.int .i64 1)) w) ∧ ((kind
    == 2) = false → (((kind == 4) = true → R (.returned (.int .i64 2)) w) ∧ ((kind == 4) = false → (((kind == 6) = true → R (.returned (.int .i64 3)) w) ∧ ((kind == 6) = false → (((kind == 5) = true → (((kind == 5) = true
    → R (.returned (.int .i64 4)) w) ∧ ((kind == 5) = false → R (.returned (.int .i64 0)) w))) ∧ ((kind == 5) = false → (((kind == 7) = true → R (.returned (.int .i64 4)) w) ∧ ((kind == 7) = false → R (.returned (.int
    .i64 0)) w))))))))))) ∧ ((kind == 2) = false → (((kind == 3) = true → (((kind == 3) = true → R (.returned (.int .i64 1)) w) ∧ ((kind == 3) = false → (((kind == 4) = true → R (.returned (.int .i64 2)) w) ∧ ((kind == 4)
    = false → (((kind == 6) = true → R (.returned (.int .i64 3)) w) ∧ ((kind == 6) = false → (((kind == 5) = true → (((kind == 5) = true → R (.returned (.int .i64 4)) w) ∧ ((kind == 5) = false → R (.returned (.int .i64
    0)) w))) ∧ ((kind == 5) = false → (((kind == 7) = true → R (.returned (.int .i64 4)) w) ∧ ((kind == 7) = false → R (.returned (.int .i64 0)) w))))))))))) ∧ ((kind == 3) = false → (((kind == 8) = true → R (.returned
    (.int .i64 1)) w) ∧ ((kind == 8) = false → (((kind == 4) = true → R (.returned (.int .i64 2)) w) ∧ ((kind == 4) = false → (((kind == 6) = true → R (.returned (.int .i64 3)) w) ∧ ((kind == 6) = false → (((kind == 5) =
    true → (((kind == 5) = true → R (.returned (.int .i64 4)) w) ∧ ((kind == 5) = false → R (.returned (.int .i64 0)) w))) ∧ ((kind == 5) = false → (((kind == 7) = true → R (.returned (.int .i64 4)) w) ∧ ((kind == 7) =
    false → R (.returned (.int .i64 0)) w))))))))))))))))
theorem sx49.ok {kind : Int} {R : Ending → World → Prop} {w : World} (h : sx49 kind R w) : CallsW Try.prog 49 [.int .i64 kind] w R :=
  callsW_of mix Try.func49 (by kernel_rfl) (by kernel_rfl) (Eq.mpr (by kernel_rfl : denFn Try.prog {} Try.f49 [.int .i64 kind] R w = sx49 kind R w) h)

/- reprise/repriseref05.Sound -/
def sx53 (t : Option Addr) (t_n t_c : Nat) (R : Ending → World → Prop) (w : World) : Prop :=
  ∃ (I1 : Int → World → Prop) (m1 : Int → World → Nat), I1 0 w ∧ ∀ (n2 : Int) (w3 : World), I1 n2 w3 → (((decide (n2 < ((t_n : Nat) : Int))) = true → withSome t (fun d4 => (0 ≤ n2 ∧ n2 < (t_n : Nat)) ∧ ∃ (b5 : Bool),
    w3.cell? (Addr.add (Addr.add d4 (n2.toNat * 3)) 1) = some (.bool b5) ∧ (((!b5) = true → ∀ w6, Grew w3 w6 → R (.returned (.bool false)) w6) ∧ ((!b5) = false → (((decide (n2 > 0)) = true → withSome t (fun d7 => (0 ≤ n2
    ∧ n2 < (t_n : Nat)) ∧ ∃ (n8 : Int), w3.cell? (Addr.add d7 (n2.toNat * 3)) = some (.int .u64 n8) ∧ withSome t (fun d9 => (0 ≤ (IntKind.i64.wrap (n2 - 1)) ∧ (IntKind.i64.wrap (n2 - 1)) < (t_n : Nat)) ∧ ∃ (n10 : Int),
    w3.cell? (Addr.add d9 ((IntKind.i64.wrap (n2 - 1)).toNat * 3)) = some (.int .u64 n10) ∧ ∀ w11, Grew w3 w11 → (((decide (n8 ≤ n10)) = true → R (.returned (.bool false)) w11) ∧ ((decide (n8 ≤ n10)) = false → (I1
    (IntKind.i64.wrap (n2 + 1)) w11 ∧ m1 (IntKind.i64.wrap (n2 + 1)) w11 < m1 n2 w3)))))) ∧ ((decide (n2 > 0)) = false → ∀ w12, Grew w3 w12 → (I1 (IntKind.i64.wrap (n2 + 1)) w12 ∧ m1 (IntKind.i64.wrap (n2 + 1)) w12 < m1
    n2 w3))))))) ∧ ((decide (n2 < ((t_n : Nat) : Int))) = false → R (.returned (.bool true)) w3))
theorem sx53.ok {t : Option Addr} {t_n t_c : Nat} {R : Ending → World → Prop} {w : World} (h : sx53 t t_n t_c R w) : CallsW Try.prog 53 [.slice t t_n t_c] w R :=
  callsW_of mix Try.func53 (by kernel_rfl) (by kernel_rfl) (Eq.mpr (by kernel_rfl : denFn Try.prog { loops := [(2, { slots := [(3, .int .i64)], cells := [] })] } Try.f53 [.slice t t_n t_c] R w = sx53 t t_n t_c R w) h)

/- reprise/repriseref15.Sound -/
def sx39 (d_0 : Int) (d_1 : Int) (d_2 : Int) (d_3 : Int) (d_4 : Int) (d_5 : Int) (d_6 : Option Addr) (d_6_n d_6_c : Nat) (d_7 : Option Addr) (d_7_n d_7_c : Nat) (d_8 : Option Addr) (d_8_n d_8_c : Nat) (R : Ending → World → Prop) (w : World) : Prop :=
  ∀ w1, Grew w w1 → CallsW Try.prog 49 [.int .i64 d_0] w1 (RetR R fun u3 w2 => ∃ (n4 : Int), u3 = .int .i64 n4 ∧ ∃ (J6 : Bool → World → Prop), ((((n4 == 0) = true → J6 true w2) ∧ ((n4 == 0) = false → (((decide (d_1 < 0)) =
    true → J6 true w2) ∧ ((decide (d_1 < 0)) = false → (((decide (d_1 > 8)) = true → J6 true w2) ∧ ((decide (d_1 > 8)) = false → (((decide (d_2 < 0)) = true → J6 true w2) ∧ ((decide (d_2 < 0)) = false → (((decide (d_2 >
    8)) = true → J6 true w2) ∧ ((decide (d_2 > 8)) = false → (((decide (d_3 < 1)) = true → J6 true w2) ∧ ((decide (d_3 < 1)) = false → (((decide (d_3 > 1099511627776)) = true → J6 true w2) ∧ ((decide (d_3 >
    1099511627776)) = false → (((decide (d_4 < 1)) = true → J6 true w2) ∧ ((decide (d_4 < 1)) = false → J6 (decide (d_4 > 1099511627776)) w2))))))))))))))))) ∧ ∀ (b7 : Bool) (w8 : World), J6 b7 w8 → ((b7 = true → R
    (.returned (.bool false)) w8) ∧ (b7 = false → ∃ (J9 : Bool → World → Prop), ((((n4 != 1) = true → (((decide (((d_6_n : Nat) : Int) > 0)) = true → J9 true w8) ∧ ((decide (((d_6_n : Nat) : Int) > 0)) = false → (((n4 !=
    2) = true → (((decide (((d_7_n : Nat) : Int) > 0)) = true → J9 true w8) ∧ ((decide (((d_7_n : Nat) : Int) > 0)) = false → (((n4 != 3) = true → (((decide (((d_8_n : Nat) : Int) > 0)) = true → J9 true w8) ∧ ((decide
    (((d_8_n : Nat) : Int) > 0)) = false → (((n4 != 4) = true → J9 (d_5 != 0) w8) ∧ ((n4 != 4) = false → J9 false w8))))) ∧ ((n4 != 3) = false → (((n4 != 4) = true → J9 (d_5 != 0) w8) ∧ ((n4 != 4) = false → J9 false
    w8))))))) ∧ ((n4 != 2) = false → (((n4 != 3) = true → (((decide (((d_8_n : Nat) : Int) > 0)) = true → J9 true w8) ∧ ((decide (((d_8_n : Nat) : Int) > 0)) = false → (((n4 != 4) = true → J9 (d_5 != 0) w8) ∧ ((n4 != 4) =
    false → J9 false w8))))) ∧ ((n4 != 3) = false → (((n4 != 4) = true → J9 (d_5 != 0) w8) ∧ ((n4 != 4) = false → J9 false w8))))))))) ∧ ((n4 != 1) = false → (((n4 != 2) = true → (((decide (((d_7_n : Nat) : Int) > 0)) =
    true → J9 true w8) ∧ ((decide (((d_7_n : Nat) : Int) > 0)) = false → (((n4 != 3) = true → (((decide (((d_8_n : Nat) : Int) > 0)) = true → J9 true w8) ∧ ((decide (((d_8_n : Nat) : Int) > 0)) = false → (((n4 != 4) =
    true → J9 (d_5 != 0) w8) ∧ ((n4 != 4) = false → J9 false w8))))) ∧ ((n4 != 3) = false → (((n4 != 4) = true → J9 (d_5 != 0) w8) ∧ ((n4 != 4) = false → J9 false w8))))))) ∧ ((n4 != 2) = false → (((n4 != 3) = true →
    (((decide (((d_8_n : Nat) : Int) > 0)) = true → J9 true w8) ∧ ((decide (((d_8_n : Nat) : Int) > 0)) = false → (((n4 != 4) = true → J9 (d_5 != 0) w8) ∧ ((n4 != 4) = false → J9 false w8))))) ∧ ((n4 != 3) = false → (((n4
    != 4) = true → J9 (d_5 != 0) w8) ∧ ((n4 != 4) = false → J9 false w8))))))))) ∧ ∀ (b10 : Bool) (w11 : World), J9 b10 w11 → ((b10 = true → R (.returned (.bool false)) w11) ∧ (b10 = false → ∃ (J12 : Bool → World → Prop),
    ((((n4 == 1) = true → (((decide (((d_6_n : Nat) : Int) < 1)) = true → J12 true w11) ∧ ((decide (((d_6_n : Nat) : Int) < 1)) = false → J12 (decide (((d_6_n : Nat) : Int) > 4)) w11))) ∧ ((n4 == 1) = false → J12 false
    w11))) ∧ ∀ (b13 : Bool) (w14 : World), J12 b13 w14 → ((b13 = true → R (.returned (.bool false)) w14) ∧ (b13 = false → ∃ (I15 : Int → World → Prop) (m15 : Int → World → Nat), I15 0 w14 ∧ ∀ (n16 : Int) (w17 : World),
    I15 n16 w17 → (((decide (n16 < ((d_6_n : Nat) : Int))) = true → ∃ (J18 : Bool → World → Prop), (withSome d_6 (fun d19 => (0 ≤ n16 ∧ n16 < (d_6_n : Nat)) ∧ ∃ (n20 : Int), w17.cell? (Addr.add d19 (n16.toNat * 1)) = some
    (.int .i64 n20) ∧ (((decide (n20 < 0)) = true → J18 true w17) ∧ ((decide (n20 < 0)) = false → withSome d_6 (fun d21 => (0 ≤ n16 ∧ n16 < (d_6_n : Nat)) ∧ ∃ (n22 : Int), w17.cell? (Addr.add d21 (n16.toNat * 1)) = some
    (.int .i64 n22) ∧ J18 (decide (n22 > 256)) w17))))) ∧ ∀ (b23 : Bool) (w24 : World), J18 b23 w24 → ((b23 = true → R (.returned (.bool false)) w24) ∧ (b23 = false → (I15 (IntKind.i64.wrap (n16 + 1)) w24 ∧ m15
    (IntKind.i64.wrap (n16 + 1)) w24 < m15 n16 w17)))) ∧ ((decide (n16 < ((d_6_n : Nat) : Int))) = false → (((decide (((d_7_n : Nat) : Int) ≤ 64)) = true → CallsW Try.prog 52 [.slice d_7 d_7_n d_7_c] w17 (RetR R fun u26
    w25 => ∃ (b27 : Bool), u26 = .bool b27 ∧ ((b27 = true → (((decide (((d_8_n : Nat) : Int) ≤ 64)) = true → CallsW Try.prog 53 [.slice d_8 d_8_n d_8_c] w25 (RetR R fun u30 w29 => ∃ (b31 : Bool), u30 = .bool b31 ∧ ((b31 =
    true → (((decide (d_5 ≥ 0)) = true → R (.returned (.bool (decide (d_5 ≤ 1000)))) w29) ∧ ((decide (d_5 ≥ 0)) = false → R (.returned (.bool false)) w29))) ∧ (b31 = false → R (.returned (.bool false)) w29)))) ∧ ((decide
    (((d_8_n : Nat) : Int) ≤ 64)) = false → R (.returned (.bool false)) w25))) ∧ (b27 = false → R (.returned (.bool false)) w25)))) ∧ ((decide (((d_7_n : Nat) : Int) ≤ 64)) = false → R (.returned (.bool false))
    w17)))))))))))
theorem sx39.ok {d_0 : Int} {d_1 : Int} {d_2 : Int} {d_3 : Int} {d_4 : Int} {d_5 : Int} {d_6 : Option Addr} {d_6_n d_6_c : Nat} {d_7 : Option Addr} {d_7_n d_7_c : Nat} {d_8 : Option Addr} {d_8_n d_8_c : Nat} {R : Ending → World → Prop} {w : World} (h : sx39 d_0 d_1 d_2 d_3 d_4 d_5 d_6 d_6_n d_6_c d_7 d_7_n d_7_c d_8 d_8_n d_8_c R w) : CallsW Try.prog 39 [.agg #[.int .i64 d_0, .int .i64 d_1, .int .i64 d_2, .int .i64 d_3, .int .i64 d_4, .int .i64 d_5, .slice d_6 d_6_n d_6_c, .slice d_7 d_7_n d_7_c, .slice d_8 d_8_n d_8_c]] w R :=
  callsW_of mix Try.func39 (by kernel_rfl) (by kernel_rfl) (Eq.mpr (by kernel_rfl : denFn Try.prog { locals := [1], loops := [(9, { slots := [(4, .int .i64)], cells := [] })], cuts := [(3, { slots := [(49, .bool)], cells := [] }), (5, { slots := [(86, .bool)], cells := [] }), (7, { slots := [(100, .bool)], cells := [] }), (12, { slots := [(121, .bool)], cells := [] })] } Try.f39 [.agg #[.int .i64 d_0, .int .i64 d_1, .int .i64 d_2, .int .i64 d_3, .int .i64 d_4, .int .i64 d_5, .slice d_6 d_6_n d_6_c, .slice d_7 d_7_n d_7_c, .slice d_8 d_8_n d_8_c]] R w = sx39 d_0 d_1 d_2 d_3 d_4 d_5 d_6 d_6_n d_6_c d_7 d_7_n d_7_c d_8 d_8_n d_8_c R w) h)

/- reprise/repriseref02.Nums -/
def sx50 (list : Option Addr) (list_n list_c : Nat) (R : Ending → World → Prop) (w : World) : Prop :=
  ∀ n1 : Int, n1 = IntKind.u64.wrap ((list_n : Nat) : Int) → CallsW Try.prog 48 [.int .u64 n1] w (RetR R fun u3 w2 => ∃ (a4 : Option Addr) (l4 c4 : Nat), u3 = .slice a4 l4 c4 ∧ ∃ (I6 : Option Addr → Nat → Nat → Int → World
    → Prop) (m6 : Option Addr → Nat → Nat → Int → World → Nat), I6 a4 l4 c4 0 w2 ∧ ∀ (a7 : Option Addr) (l7 c7 : Nat) (n8 : Int) (w9 : World), I6 a7 l7 c7 n8 w9 → (((decide (n8 < ((list_n : Nat) : Int))) = true → withSome
    list (fun d10 => (0 ≤ n8 ∧ n8 < (list_n : Nat)) ∧ ∃ (n11 : Int), w9.cell? (Addr.add d10 (n8.toNat * 1)) = some (.int .i64 n11) ∧ (((decide (n11 < 0)) = true → R (.returned (.tuple #[.slice none 0 0, .int .i64 1])) w9)
    ∧ ((decide (n11 < 0)) = false → withSome list (fun d12 => (0 ≤ n8 ∧ n8 < (list_n : Nat)) ∧ ∃ (n13 : Int), w9.cell? (Addr.add d12 (n8.toNat * 1)) = some (.int .i64 n13) ∧ CallsW Try.prog 48 [.int .u64 (IntKind.u64.wrap
    n13)] w9 (RetR R fun u15 w14 => ∃ (a16 : Option Addr) (l16 c16 : Nat), u15 = .slice a16 l16 c16 ∧ SemW Try.prog (Builtin.append_ #[79, 79] 79 #[.slice a7 l7 c7, .slice a16 l16 c16]) (fun u19 w18 => ∃ (a20 : Option
    Addr) (l20 c20 : Nat), u19 = .slice a20 l20 c20 ∧ (I6 a20 l20 c20 (IntKind.i64.wrap (n8 + 1)) w18 ∧ m6 a20 l20 c20 (IntKind.i64.wrap (n8 + 1)) w18 < m6 a7 l7 c7 n8 w9)) w14)))))) ∧ ((decide (n8 < ((list_n : Nat) :
    Int))) = false → R (.returned (.tuple #[.slice a7 l7 c7, .int .i64 0])) w9)))
theorem sx50.ok {list : Option Addr} {list_n list_c : Nat} {R : Ending → World → Prop} {w : World} (h : sx50 list list_n list_c R w) : CallsW Try.prog 50 [.slice list list_n list_c] w R :=
  callsW_of mix Try.func50 (by kernel_rfl) (by kernel_rfl) (Eq.mpr (by kernel_rfl : denFn Try.prog { sem := [28], named := [8], loops := [(3, { slots := [(4, .slice), (5, .int .i64)], cells := [] })] } Try.f50 [.slice list list_n list_c] R w = sx50 list list_n list_c R w) h)


theorem Field_ok {k : Int} {w : World} : CallsW Try.prog 49 [.int .i64 k] w (Rets fun v w' => v = .int .i64 (fieldM k) ∧ w' = w) := by
  refine sx49.ok ?_
  unfold sx49
  have leaf : ∀ c : Int, c = fieldM k → Rets (fun v w' => v = Value.int .i64 (fieldM k) ∧ w' = w) (.returned (.int .i64 c)) w := fun c h => ⟨_, rfl, by rw [h], rfl⟩
  repeat' first
    | refine leaf _ ?_
    | refine And.intro (fun h => ?_) (fun h => ?_)
  all_goals simp only [beq_iff_eq, beq_eq_false_iff_ne, ne_eq] at *
  all_goals (unfold fieldM; repeat' split)
  all_goals omega

theorem rPSound_ok {a : Option Addr} {n c : Nat} {l : List PairV} {w : World} (hr : Reads w Enc.pair (a, n, c) l) (hl : l.length ≤ 9223372036854775806) :
    CallsW Try.prog 53 [.slice a n c] w (Rets fun v w' => v = .bool (soundP l) ∧ Grew w w') := by
  refine sx53.ok ?_
  unfold sx53
  have hn : n = l.length := hr.2.1
  subst hn
  refine ⟨fun i w' => ∃ k : Nat, i = k ∧ k ≤ l.length ∧ (∀ (j : Nat) (x : PairV), j < k → l[j]? = some x → x.has = true) ∧ (∀ (j : Nat) (x y : PairV), j + 1 < k → l[j]? = some x → l[j + 1]? = some y → x.key < y.key) ∧ Grew w w', fun i _ => l.length - i.toNat, ⟨0, rfl, Nat.zero_le _, fun j x h => by omega, fun j x y h => by omega, Grew.refl _⟩, ?_⟩
  rintro i w' ⟨k, rfl, hk, hh, hlt, hg⟩
  refine ⟨fun h => ?_, fun h => ?_⟩
  · simp only [decide_eq_true_eq] at h
    have hw1 : IntKind.i64.wrap ((k : Int) + 1) = ((k + 1 : Nat) : Int) := by rw [IntKind.wrap_i64]; omega
    obtain ⟨d, y, rfl, hy, hcy⟩ := (hr.grew hg).at0 (k := k) (by omega)
    have hm : l.length - (((k + 1 : Nat) : Int)).toNat < l.length - ((k : Int)).toNat := by omega
    have hcb := hcy.2.1; have hck := hcy.1
    refine ⟨by omega, y.has, by simpa [Enc.pair, Addr.add_zero'] using hcb, fun hb w6 hg6 => ?_, fun hb => ⟨fun h0 => ?_, fun h0 w12 hg12 => ?_⟩⟩
    · have hb' : y.has = false := by simpa using hb
      have : soundP l = false := by
        apply Bool.eq_false_iff.2
        intro he
        have := ((soundP_iff l).1 he).1 k y hy
        rw [hb'] at this; cases this
      exact ⟨_, rfl, by rw [this], hg.trans hg6⟩
    · simp only [decide_eq_true_eq] at h0
      have hb' : y.has = true := by simpa using hb
      have hw2 : IntKind.i64.wrap ((k : Int) - 1) = ((k - 1 : Nat) : Int) := by rw [IntKind.wrap_i64]; omega
      rw [hw2, hw1]
      obtain ⟨d', x, hd', hx, hcx⟩ := (hr.grew hg).at0 (k := k - 1) (by omega)
      cases hd'
      refine ⟨by omega, y.key, by simpa [Enc.pair, Addr.add_zero'] using hck, by omega, x.key, by have := hcx.1; simpa [Enc.pair, Addr.add_zero'] using this, fun w11 hg11 => ⟨fun hle => ?_, fun hle => ?_⟩⟩
      · simp only [decide_eq_true_eq] at hle
        have : soundP l = false := by
          apply Bool.eq_false_iff.2
          intro he
          have := ((soundP_iff l).1 he).2 (k - 1) x y hx (by rw [show k - 1 + 1 = k from by omega]; exact hy)
          omega
        exact ⟨_, rfl, by rw [this], hg.trans hg11⟩
      · simp only [decide_eq_false_iff_not] at hle
        refine ⟨⟨k + 1, rfl, by omega, fun j u hj hu => ?_, fun j u v hj hu hv => ?_, hg.trans hg11⟩, hm⟩
        · by_cases hjk : j < k
          · exact hh j u hjk hu
          · have : j = k := by omega
            subst this; rw [hy] at hu; cases hu; exact hb'
        · by_cases hjk : j + 1 < k
          · exact hlt j u v hjk hu hv
          · have : j = k - 1 := by omega
            subst this
            rw [show k - 1 + 1 = k from by omega] at hv
            rw [hx] at hu; rw [hy] at hv
            cases hu; cases hv; omega
    · simp only [decide_eq_false_iff_not] at h0
      have hb' : y.has = true := by simpa using hb
      rw [hw1]
      refine ⟨⟨k + 1, rfl, by omega, fun j u hj hu => ?_, fun j u v hj hu hv => by omega, hg.trans hg12⟩, hm⟩
      have : j = k := by omega
      subst this; rw [hy] at hu; cases hu; exact hb'
  · simp only [decide_eq_false_iff_not] at h
    have : soundP l = true := (soundP_iff l).2 ⟨fun i x hx => by
      have : i < l.length := (List.getElem?_eq_some_iff.1 hx).1
      exact hh i x (by omega) hx, fun i x y hx hy => by
      have : i + 1 < l.length := (List.getElem?_eq_some_iff.1 hy).1
      exact hlt i x y (by omega) hx hy⟩
    exact ⟨_, rfl, by rw [this], hg⟩

set_option maxHeartbeats 1000000 in
theorem rMSound_ok {x : Msg} {w : World} (hx : x.At w) (h1 : x.c.ends.length ≤ 9223372036854775806) (h2 : x.c.keys.length ≤ 9223372036854775806) (h3 : x.c.pairs.length ≤ 9223372036854775806) :
    CallsW Try.prog 39 [x.val] w (Rets fun v w' => v = .bool (soundMsg x.c) ∧ Grew w w') := by
  refine sx39.ok ?_
  unfold sx39
  have he : x.e.2.1 = x.c.ends.length := hx.e.2.1
  have hk : x.k.2.1 = x.c.keys.length := hx.k.2.1
  have hp : x.p.2.1 = x.c.pairs.length := hx.p.2.1
  have hsi := soundMsg_iff x.c
  have no : ∀ w', Grew w w' → ¬ (soundMsg x.c = true) → Rets (fun v w' => v = Value.bool (soundMsg x.c) ∧ Grew w w') (.returned (.bool false)) w' := fun w' hg h => ⟨_, rfl, by rw [Bool.eq_false_iff.2 h], hg⟩
  have fin : ∀ b w', Grew w w' → (b = true ↔ soundMsg x.c = true) → Rets (fun v w' => v = Value.bool (soundMsg x.c) ∧ Grew w w') (.returned (.bool b)) w' := fun b w' hg h => ⟨_, rfl, by rw [Bool.eq_iff_iff.2 h], hg⟩
  intro w1 hg1
  refine Field_ok.use fun v w2 ⟨hv, hw⟩ => ?_
  subst hv; subst hw
  obtain ⟨f, hf⟩ : ∃ f, f = fieldM x.c.kind := ⟨_, rfl⟩
  rw [← hf] at hsi ⊢
  refine ⟨f, rfl, fun b w' => Grew w w' ∧ (b = false ↔ (f ≠ 0 ∧ (0 ≤ x.c.frm ∧ x.c.frm ≤ 8) ∧ (0 ≤ x.c.to ∧ x.c.to ≤ 8) ∧ (1 ≤ x.c.batch ∧ x.c.batch ≤ 1099511627776) ∧ (1 ≤ x.c.att ∧ x.c.att ≤ 1099511627776))), ?_, ?_⟩
  · clear hsi no fin
    repeat' first
      | refine And.intro (fun h => ?_) (fun h => ?_)
      | refine And.intro hg1 ?_
    all_goals simp only [beq_iff_eq, beq_eq_false_iff_ne, ne_eq, decide_eq_true_eq, decide_eq_false_iff_not, Bool.true_eq_false, iff_true, iff_false, true_iff, false_iff] at *
    all_goals omega
  rintro b7 w8 ⟨hg8, hb7⟩
  refine ⟨fun h => no _ hg8 fun hs => ?_, fun h => ?_⟩
  · have := hsi.1 hs; rw [h] at hb7; have := hb7.2 ⟨this.1, this.2.1, this.2.2.1, this.2.2.2.1, this.2.2.2.2.1⟩; cases this
  obtain ⟨f0, ffr, fto, fba, fat⟩ := hb7.1 h
  refine ⟨fun b w' => Grew w w' ∧ (b = false ↔ ((f ≠ 1 → x.c.ends.length = 0) ∧ (f ≠ 2 → x.c.keys.length = 0) ∧ (f ≠ 3 → x.c.pairs.length = 0) ∧ (f ≠ 4 → x.c.code = 0))), ?_, ?_⟩
  · clear hsi no fin hb7
    repeat' first
      | refine And.intro (fun h => ?_) (fun h => ?_)
      | refine And.intro hg8 ?_
    all_goals simp only [beq_iff_eq, beq_eq_false_iff_ne, bne_iff_ne, bne_eq_false_iff_eq, ne_eq, decide_eq_true_eq, decide_eq_false_iff_not, Bool.true_eq_false, iff_true, iff_false, true_iff, false_iff] at *
    all_goals omega
  rintro b10 w11 ⟨hg11, hb10⟩
  refine ⟨fun h => no _ hg11 fun hs => ?_, fun h => ?_⟩
  · have := hsi.1 hs; rw [h] at hb10
    have := hb10.2 ⟨this.2.2.2.2.2.1, this.2.2.2.2.2.2.1, this.2.2.2.2.2.2.2.1, this.2.2.2.2.2.2.2.2.1⟩; cases this
  obtain ⟨k1, k2, k3, k4⟩ := hb10.1 h
  refine ⟨fun b w' => Grew w w' ∧ (b = false ↔ (f = 1 → 1 ≤ x.c.ends.length ∧ x.c.ends.length ≤ 4)), ?_, ?_⟩
  · clear hsi no fin hb7 hb10
    repeat' first
      | refine And.intro (fun h => ?_) (fun h => ?_)
      | refine And.intro hg11 ?_
    all_goals simp only [beq_iff_eq, beq_eq_false_iff_ne, bne_iff_ne, bne_eq_false_iff_eq, ne_eq, decide_eq_true_eq, decide_eq_false_iff_not, Bool.true_eq_false, iff_true, iff_false, true_iff, false_iff] at *
    all_goals omega
  rintro b13 w14 ⟨hg14, hb13⟩
  refine ⟨fun h => no _ hg14 fun hs => ?_, fun h => ?_⟩
  · have := hsi.1 hs; rw [h] at hb13
    have := hb13.2 this.2.2.2.2.2.2.2.2.2.1; cases this
  have k5 := hb13.1 h
  obtain ⟨l, hl⟩ : ∃ l, l = x.c.ends := ⟨_, rfl⟩
  have hre : Reads w (Enc.int .i64) x.e l := by rw [hl]; exact hx.e
  have hll : l.length ≤ 9223372036854775806 := by rw [hl]; exact h1
  rw [← hl] at he
  refine ⟨fun i w' => ∃ k : Nat, i = k ∧ k ≤ l.length ∧ endsB (l.take k) = true ∧ Grew w w', fun i _ => l.length - i.toNat, ⟨0, rfl, Nat.zero_le _, rfl, hg14⟩, ?_⟩
  rintro i w17 ⟨k, rfl, hkl, hlt, hg17⟩
  refine ⟨fun h => ?_, fun h => ?_⟩
  · simp only [decide_eq_true_eq] at h
    have hw1 : IntKind.i64.wrap ((k : Int) + 1) = ((k + 1 : Nat) : Int) := by rw [IntKind.wrap_i64]; omega
    have hre' : Reads w17 (Enc.int .i64) (x.e.1, x.e.2.1, x.e.2.2) l := hre.grew hg17
    obtain ⟨d, y, hd, hy, hcy⟩ := hre'.at0 (k := k) (by omega)
    have hcy' : w17.cell? (Addr.add d (((k : Nat) : Int).toNat * 1)) = some (.int .i64 y) := by simpa [Enc.int, CellsAt, Addr.add_zero'] using hcy
    rw [hd]
    refine ⟨fun b w' => w' = w17 ∧ (b = false ↔ (0 ≤ y ∧ y ≤ 256)), ⟨by omega, y, hcy', fun h => ⟨rfl, ?_⟩, fun h => ⟨by omega, y, hcy', rfl, ?_⟩⟩, ?_⟩
    · simp only [decide_eq_true_eq] at h; simp only [Bool.true_eq_false, false_iff]; omega
    · simp only [decide_eq_false_iff_not] at h ⊢; omega
    rintro b23 w24 ⟨rfl, hb23⟩
    refine ⟨fun hb => no _ hg17 fun hs => ?_, fun hb => ?_⟩
    · have h5 := (hsi.1 hs).2.2.2.2.2.2.2.2.2.2.1
      rw [← hl] at h5
      have := List.all_eq_true.1 h5 y (List.mem_of_getElem? hy)
      rw [hb] at hb23
      have := hb23.2 (by simpa using this); cases this
    · rw [hw1]
      have hyb := hb23.1 hb
      refine ⟨⟨k + 1, rfl, by omega, ?_, hg17⟩, by show l.length - (((k + 1 : Nat) : Int)).toNat < l.length - ((k : Int)).toNat; omega⟩
      rw [take_snoc hy]
      unfold endsB at hlt ⊢
      rw [List.all_append, hlt]; simp [hyb]
  · simp only [decide_eq_false_iff_not] at h
    rw [List.take_of_length_le (by omega), hl] at hlt
    have hx17 := hx.grew hg17
    refine ⟨fun h6 => ?_, fun h6 => no _ hg17 fun hs => ?_⟩
    · simp only [decide_eq_true_eq] at h6
      refine (rKRising_ok hx17.k h2).use fun v w25 ⟨hv, hg25⟩ => ?_
      subst hv
      have hg25' := hg17.trans hg25
      refine ⟨_, rfl, fun h7 => ⟨fun h8 => ?_, fun h8 => no _ hg25' fun hs => ?_⟩, fun h7 => no _ hg25' fun hs => ?_⟩
      · simp only [decide_eq_true_eq] at h8
        refine (rPSound_ok (hx17.grew hg25).p h3).use fun v w29 ⟨hv, hg29⟩ => ?_
        subst hv
        have hg29' := hg25'.trans hg29
        refine ⟨_, rfl, fun h9 => ⟨fun h10 => fin _ _ hg29' ?_, fun h10 => no _ hg29' fun hs => ?_⟩, fun h9 => no _ hg29' fun hs => ?_⟩
        · simp only [decide_eq_true_eq] at h10 ⊢
          rw [hsi]
          exact ⟨fun hc => ⟨f0, ffr, fto, fba, fat, k1, k2, k3, k4, k5, hlt, by omega, h7, by omega, h9, by omega, hc⟩, fun hs => hs.2.2.2.2.2.2.2.2.2.2.2.2.2.2.2.2⟩
        · simp only [decide_eq_false_iff_not] at h10
          have := (hsi.1 hs).2.2.2.2.2.2.2.2.2.2.2.2.2.2.2.1; omega
        · have := (hsi.1 hs).2.2.2.2.2.2.2.2.2.2.2.2.2.2.1; rw [h9] at this; cases this
      · simp only [decide_eq_false_iff_not] at h8
        have := (hsi.1 hs).2.2.2.2.2.2.2.2.2.2.2.2.2.1; omega
      · have := (hsi.1 hs).2.2.2.2.2.2.2.2.2.2.2.2.1; rw [h7] at this; cases this
    · simp only [decide_eq_false_iff_not] at h6
      have := (hsi.1 hs).2.2.2.2.2.2.2.2.2.2.2.1; omega

theorem putB_lens : ∀ {l : List Int}, (∀ x ∈ l, x < u64m) → (l.flatMap putB).length ≤ 10 * l.length
  | [], _ => by simp
  | x :: l, h => by
    have h1 := putB_len10 (h x (by simp))
    have h2 := putB_lens (l := l) fun y hy => h y (by simp [hy])
    rw [List.flatMap_cons, List.length_append, List.length_cons]; omega
theorem take_flat {α : Type} {l : List α} {f : α → List Int} {k : Nat} {y : α} (h : l[k]? = some y) : (l.take (k + 1)).flatMap f = (l.take k).flatMap f ++ f y := by
  rw [take_snoc h, List.flatMap_append]; simp

theorem Nums_ok {a : Option Addr} {n c : Nat} {l : List Int} {w : World} (hr : Reads w (Enc.int .i64) (a, n, c) l) (hl : l.length ≤ 1000) (hp : ∀ x ∈ l, 0 ≤ x ∧ x < u64m) :
    CallsW Try.prog 50 [.slice a n c] w (Rets (BytesErr w (putB (l.length : Int) ++ l.flatMap putB, 0))) := by
  refine sx50.ok ?_
  unfold sx50
  have hn : n = l.length := hr.2.1
  subst hn
  have hw0 : IntKind.u64.wrap ((l.length : Nat) : Int) = (l.length : Int) := by rw [IntKind.wrap_u64]; omega
  rintro n1 rfl
  rw [hw0]
  refine (rPut_ok (by omega) (by simp only [u64m]; omega)).use fun v w2 ⟨a4, l4, c4, hv, ho2, hg2⟩ => ?_
  subst hv
  have hlen0 := putB_len10 (x := (l.length : Int)) (by simp only [u64m]; omega)
  refine ⟨_, _, _, rfl, fun a' n' c' i w' => ∃ k : Nat, i = k ∧ k ≤ l.length ∧ Own w' w.heap.size 5 (Enc.int .u8) a' n' c' (putB (l.length : Int) ++ (l.take k).flatMap putB) ∧ Grew w w', fun _ _ _ i _ => l.length - i.toNat, ⟨0, rfl, Nat.zero_le _, by simpa using ho2, hg2⟩, ?_⟩
  rintro a7 l7 c7 i w9 ⟨k, rfl, hk, ho9, hg9⟩
  refine ⟨fun h => ?_, fun h => ?_⟩
  · simp only [decide_eq_true_eq] at h
    obtain ⟨d, y, rfl, hy, hcy⟩ := (hr.grew hg9).at0 (k := k) (by omega)
    have hyb := hp y (List.mem_of_getElem? hy)
    have hcy' : w9.cell? (Addr.add d (((k : Nat) : Int).toNat * 1)) = some (.int .i64 y) := by simpa [Enc.int, CellsAt, Addr.add_zero'] using hcy
    have hw1 : IntKind.i64.wrap ((k : Int) + 1) = ((k + 1 : Nat) : Int) := by rw [IntKind.wrap_i64]; omega
    have hwy : IntKind.u64.wrap y = y := by have := hyb.2; simp only [u64m] at this; rw [IntKind.wrap_u64]; omega
    rw [hw1]
    refine ⟨by omega, y, hcy', fun hn => (by simp only [decide_eq_true_eq] at hn; omega), fun _ => ⟨by omega, y, hcy', ?_⟩⟩
    rw [hwy]
    refine (rPut_ok hyb.1 hyb.2).use fun v w14 ⟨a16, l16, c16, hv, ho14, hg14⟩ => ?_
    subst hv
    have hb := putB_lens (l := l.take k) fun x hx => (hp x (List.mem_of_mem_take hx)).2
    rw [List.length_take] at hb
    have hb' := putB_len10 hyb.2
    refine ⟨_, _, _, rfl, push_ok ho9 hg9 ho14 hg14 (by rw [List.length_append]; omega) ?_⟩
    intro a20 l20 c20 w18 ho18 hg18
    refine ⟨_, _, _, rfl, ⟨k + 1, rfl, by omega, ?_, hg18⟩, by show l.length - (((k + 1 : Nat) : Int)).toNat < l.length - ((k : Int)).toNat; omega⟩
    rw [take_flat hy, ← List.append_assoc]; exact ho18
  · simp only [decide_eq_false_iff_not] at h
    rw [List.take_of_length_le (by omega)] at ho9
    exact ⟨_, rfl, _, _, _, rfl, ho9, hg9⟩
end Go.Proofs.Ytlkfkcgnlnbdeaa
