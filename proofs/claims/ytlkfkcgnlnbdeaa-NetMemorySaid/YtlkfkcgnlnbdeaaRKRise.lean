/- What the reference's Rising hands back. Conditions: none. -/
import Derived.Test.YtlkfkcgnlnbdeaaProg
import Derived.Test.YtlkfkcgnlnbdeaaBase
import Derived.Test.YtlkfkcgnlnbdeaaSxO
import Derived.Test.YtlkfkcgnlnbdeaaSxR
namespace Go.Proofs.Ytlkfkcgnlnbdeaa
open Go.Sx
set_option maxRecDepth 100000
set_option linter.unusedVariables false
set_option linter.unusedSimpArgs false
/- reprise/repriseref12.Rising -/
def sx52 (keys : Option Addr) (keys_n keys_c : Nat) (R : Ending → World → Prop) (w : World) : Prop :=
  ∃ (I1 : Int → World → Prop) (m1 : Int → World → Nat), I1 1 w ∧ ∀ (n2 : Int) (w3 : World), I1 n2 w3 → (((decide (n2 < ((keys_n : Nat) : Int))) = true → withSome keys (fun d4 => (0 ≤ n2 ∧ n2 < (keys_n : Nat)) ∧ ∃ (n5 :
    Int), w3.cell? (Addr.add d4 (n2.toNat * 1)) = some (.int .u64 n5) ∧ withSome keys (fun d6 => (0 ≤ (IntKind.i64.wrap (n2 - 1)) ∧ (IntKind.i64.wrap (n2 - 1)) < (keys_n : Nat)) ∧ ∃ (n7 : Int), w3.cell? (Addr.add d6
    ((IntKind.i64.wrap (n2 - 1)).toNat * 1)) = some (.int .u64 n7) ∧ ∀ w8, Grew w3 w8 → (((decide (n5 ≤ n7)) = true → R (.returned (.bool false)) w8) ∧ ((decide (n5 ≤ n7)) = false → (I1 (IntKind.i64.wrap (n2 + 1)) w8 ∧ m1
    (IntKind.i64.wrap (n2 + 1)) w8 < m1 n2 w3)))))) ∧ ((decide (n2 < ((keys_n : Nat) : Int))) = false → R (.returned (.bool true)) w3))
theorem sx52.ok {keys : Option Addr} {keys_n keys_c : Nat} {R : Ending → World → Prop} {w : World} (h : sx52 keys keys_n keys_c R w) : CallsW Try.prog 52 [.slice keys keys_n keys_c] w R :=
  callsW_of mix Try.func52 (by kernel_rfl) (by kernel_rfl) (Eq.mpr (by kernel_rfl : denFn Try.prog { loops := [(2, { slots := [(3, .int .i64)], cells := [] })] } Try.f52 [.slice keys keys_n keys_c] R w = sx52 keys keys_n keys_c R w) h)


theorem rKRising_ok {a : Option Addr} {n c : Nat} {l : List Int} {w : World} (hr : Reads w (Enc.int .u64) (a, n, c) l) (hl : l.length ≤ 9223372036854775806) : CallsW Try.prog 52 [.slice a n c] w (Rets fun v w' => v = .bool (risingK l) ∧ Grew w w') := by
  refine sx52.ok ?_
  unfold sx52
  have hn : n = l.length := hr.2.1
  subst hn
  refine ⟨fun i w' => ∃ k : Nat, i = k ∧ 1 ≤ k ∧ (∀ (j : Nat) (x y : Int), j + 1 < k → l[j]? = some x → l[j + 1]? = some y → x < y) ∧ Grew w w', fun i _ => l.length - i.toNat, ⟨1, rfl, by decide, fun j x y h => by omega, Grew.refl _⟩, ?_⟩
  rintro i w' ⟨k, rfl, hk, hlt, hg⟩
  refine ⟨fun h => ?_, fun h => ?_⟩
  · simp only [decide_eq_true_eq] at h
    have hw1 : IntKind.i64.wrap ((k : Int) - 1) = ((k - 1 : Nat) : Int) := by rw [IntKind.wrap_i64]; omega
    have hw2 : IntKind.i64.wrap ((k : Int) + 1) = ((k + 1 : Nat) : Int) := by rw [IntKind.wrap_i64]; omega
    obtain ⟨d, y, rfl, hy, hcy⟩ := (hr.grew hg).at0 (k := k) (by omega)
    obtain ⟨d', x, hd', hx, hcx⟩ := (hr.grew hg).at0 (k := k - 1) (by omega)
    cases hd'
    rw [hw1, hw2]
    refine ⟨by omega, y, by simpa [Enc.int, CellsAt, Addr.add_zero'] using hcy, by omega, x, by simpa [Enc.int, CellsAt, Addr.add_zero'] using hcx, fun w8 hg8 => ⟨fun hle => ?_, fun hle => ?_⟩⟩
    · simp only [decide_eq_true_eq] at hle
      have : risingK l = false := by
        apply Bool.eq_false_iff.2
        intro hr'
        have := (risingK_iff l).1 hr' (k - 1) x y hx (by rw [show k - 1 + 1 = k from by omega]; exact hy)
        omega
      exact ⟨_, rfl, by rw [this], hg.trans hg8⟩
    · simp only [decide_eq_false_iff_not] at hle
      refine ⟨⟨k + 1, rfl, by omega, fun j u v hj hu hv => ?_, hg.trans hg8⟩, by show l.length - (((k + 1 : Nat) : Int)).toNat < l.length - ((k : Int)).toNat; omega⟩
      by_cases hjk : j + 1 < k
      · exact hlt j u v hjk hu hv
      · have : j = k - 1 := by omega
        subst this
        rw [show k - 1 + 1 = k from by omega] at hv
        rw [hx] at hu; rw [hy] at hv
        cases hu; cases hv; omega
  · simp only [decide_eq_false_iff_not] at h
    have : risingK l = true := (risingK_iff l).2 fun i x y hx hy => by
      have : i + 1 < l.length := (List.getElem?_eq_some_iff.1 hy).1
      exact hlt i x y (by omega) hx hy
    exact ⟨_, rfl, by rw [this], hg⟩
end Go.Proofs.Ytlkfkcgnlnbdeaa
