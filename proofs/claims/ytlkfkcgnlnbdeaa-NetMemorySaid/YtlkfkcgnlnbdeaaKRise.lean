/- What mark's Rising hands back. Conditions: none. -/
import Derived.Test.YtlkfkcgnlnbdeaaProg
import Derived.Test.YtlkfkcgnlnbdeaaBase
import Derived.Test.YtlkfkcgnlnbdeaaSxO
import Derived.Test.YtlkfkcgnlnbdeaaSxR
namespace Go.Proofs.Ytlkfkcgnlnbdeaa
open Go.Sx
set_option maxRecDepth 100000
set_option linter.unusedVariables false
set_option linter.unusedSimpArgs false
/- reprise/mark.Rising -/
def sx36 (keys : Option Addr) (keys_n keys_c : Nat) (R : Ending → World → Prop) (w : World) : Prop :=
  ∃ (I1 : Int → World → Prop) (m1 : Int → World → Nat), I1 0 w ∧ ∀ (n2 : Int) (w3 : World), I1 n2 w3 → (((decide (n2 < ((keys_n : Nat) : Int))) = true → withSome keys (fun d4 => (0 ≤ n2 ∧ n2 < (keys_n : Nat)) ∧ ∃ (n5 :
    Int), w3.cell? (Addr.add d4 (n2.toNat * 1)) = some (.int .u64 n5) ∧ (((decide (n2 > 0)) = true → withSome keys (fun d6 => (0 ≤ (IntKind.i64.wrap (n2 - 1)) ∧ (IntKind.i64.wrap (n2 - 1)) < (keys_n : Nat)) ∧ ∃ (n7 :
    Int), w3.cell? (Addr.add d6 ((IntKind.i64.wrap (n2 - 1)).toNat * 1)) = some (.int .u64 n7) ∧ (((decide (n5 ≤ n7)) = true → R (.returned (.bool false)) w3) ∧ ((decide (n5 ≤ n7)) = false → (I1 (IntKind.i64.wrap (n2 +
    1)) w3 ∧ m1 (IntKind.i64.wrap (n2 + 1)) w3 < m1 n2 w3))))) ∧ ((decide (n2 > 0)) = false → (I1 (IntKind.i64.wrap (n2 + 1)) w3 ∧ m1 (IntKind.i64.wrap (n2 + 1)) w3 < m1 n2 w3))))) ∧ ((decide (n2 < ((keys_n : Nat) :
    Int))) = false → R (.returned (.bool true)) w3))
theorem sx36.ok {keys : Option Addr} {keys_n keys_c : Nat} {R : Ending → World → Prop} {w : World} (h : sx36 keys keys_n keys_c R w) : CallsW Try.prog 36 [.slice keys keys_n keys_c] w R :=
  callsW_of mix Try.func36 (by kernel_rfl) (by kernel_rfl) (Eq.mpr (by kernel_rfl : denFn Try.prog { loops := [(2, { slots := [(7, .int .i64)], cells := [] })] } Try.f36 [.slice keys keys_n keys_c] R w = sx36 keys keys_n keys_c R w) h)


theorem KRising_ok {a : Option Addr} {n c : Nat} {l : List Int} {w : World} (hr : Reads w (Enc.int .u64) (a, n, c) l) (hl : l.length ≤ 9223372036854775806) : CallsW Try.prog 36 [.slice a n c] w (Rets fun v w' => v = .bool (risingK l) ∧ w' = w) := by
  refine sx36.ok ?_
  unfold sx36
  have hn : n = l.length := hr.2.1
  subst hn
  refine ⟨fun i w' => ∃ k : Nat, i = k ∧ k ≤ l.length ∧ (∀ (j : Nat) (x y : Int), j + 1 < k → l[j]? = some x → l[j + 1]? = some y → x < y) ∧ w' = w, fun i _ => l.length - i.toNat, ⟨0, rfl, Nat.zero_le _, fun j x y h => by omega, rfl⟩, ?_⟩
  rintro i w' ⟨k, rfl, hk, hlt, rfl⟩
  refine ⟨fun h => ?_, fun h => ?_⟩
  · simp only [decide_eq_true_eq] at h
    have hw1 : IntKind.i64.wrap ((k : Int) + 1) = ((k + 1 : Nat) : Int) := by rw [IntKind.wrap_i64]; omega
    obtain ⟨d, y, rfl, hy, hcy⟩ := hr.at0 (k := k) (by omega)
    rw [hw1]
    have hm : l.length - (((k + 1 : Nat) : Int)).toNat < l.length - ((k : Int)).toNat := by omega
    refine ⟨by omega, y, by simpa [Enc.int, CellsAt, Addr.add_zero'] using hcy, fun h0 => ?_, fun h0 => ?_⟩
    · simp only [decide_eq_true_eq] at h0
      have hw2 : IntKind.i64.wrap ((k : Int) - 1) = ((k - 1 : Nat) : Int) := by rw [IntKind.wrap_i64]; omega
      rw [hw2]
      obtain ⟨d', x, hd', hx, hcx⟩ := hr.at0 (k := k - 1) (by omega)
      cases hd'
      refine ⟨by omega, x, by simpa [Enc.int, CellsAt, Addr.add_zero'] using hcx, fun hle => ?_, fun hle => ?_⟩
      · simp only [decide_eq_true_eq] at hle
        have : risingK l = false := by
          apply Bool.eq_false_iff.2
          intro hr'
          have := (risingK_iff l).1 hr' (k - 1) x y hx (by rw [show k - 1 + 1 = k from by omega]; exact hy)
          omega
        exact ⟨_, rfl, by rw [this], rfl⟩
      · simp only [decide_eq_false_iff_not] at hle
        refine ⟨⟨k + 1, rfl, by omega, fun j u v hj hu hv => ?_, rfl⟩, hm⟩
        by_cases hjk : j + 1 < k
        · exact hlt j u v hjk hu hv
        · have : j = k - 1 := by omega
          subst this
          rw [show k - 1 + 1 = k from by omega] at hv
          rw [hx] at hu; rw [hy] at hv
          cases hu; cases hv; omega
    · simp only [decide_eq_false_iff_not] at h0
      exact ⟨⟨k + 1, rfl, by omega, fun j u v hj hu hv => by omega, rfl⟩, hm⟩
  · simp only [decide_eq_false_iff_not] at h
    have : risingK l = true := (risingK_iff l).2 fun i x y hx hy => by
      have : i + 1 < l.length := (List.getElem?_eq_some_iff.1 hy).1
      exact hlt i x y (by omega) hx hy
    exact ⟨_, rfl, by rw [this], rfl⟩
end Go.Proofs.Ytlkfkcgnlnbdeaa
