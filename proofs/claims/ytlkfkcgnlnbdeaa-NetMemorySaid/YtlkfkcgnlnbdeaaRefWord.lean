/- What the reference's Word hands back. Conditions: none. -/
import Derived.Test.YtlkfkcgnlnbdeaaProg
import Derived.Test.YtlkfkcgnlnbdeaaRefPut
namespace Go.Proofs.Ytlkfkcgnlnbdeaa
open Go.Sx
set_option maxRecDepth 100000
set_option linter.unusedVariables false
set_option linter.unusedSimpArgs false
/- reprise/repriseref02.Word -/
def sx51 (x : Int) (R : Ending → World → Prop) (w : World) : Prop :=
  ∀ (b1 : Nat) (w2 : World), Alloc w w2 b1 (.cells #[] 5) → ∃ (I3 : Int → Option Addr → Nat → Nat → Int → World → Prop) (m3 : Int → Option Addr → Nat → Nat → Int → World → Nat), I3 x (some ⟨b1, 0, none⟩) 0 0 0 w2 ∧ ∀ (n4 :
    Int) (a5 : Option Addr) (l5 c5 : Nat) (n6 : Int) (w7 : World), I3 n4 a5 l5 c5 n6 w7 → (((decide (n6 < 8)) = true → (((256 : Int) = 0 → R (.panicked (divPanic Try.prog)) w7) ∧ ((256 : Int) ≠ 0 → ∀ n8 : Int, n8 =
    IntKind.u8.wrap (Int.tmod n4 256) → ∀ (b9 : Nat) (w10 : World), Alloc w7 w10 b9 (.cells #[.int .u8 n8] 5) → SemW Try.prog (Builtin.append_ #[79, 79] 79 #[.slice a5 l5 c5, .slice (some ⟨b9, 0, none⟩) 1 1]) (fun u12 w11
    => ∃ (a13 : Option Addr) (l13 c13 : Nat), u12 = .slice a13 l13 c13 ∧ (((256 : Int) = 0 → R (.panicked (divPanic Try.prog)) w11) ∧ ((256 : Int) ≠ 0 → ∀ n14 : Int, n14 = IntKind.u64.wrap (Int.tdiv n4 256) → (I3 n14 a13
    l13 c13 (IntKind.i64.wrap (n6 + 1)) w11 ∧ m3 n14 a13 l13 c13 (IntKind.i64.wrap (n6 + 1)) w11 < m3 n4 a5 l5 c5 n6 w7)))) w10))) ∧ ((decide (n6 < 8)) = false → R (.returned (.slice a5 l5 c5)) w7))
theorem sx51.ok {x : Int} {R : Ending → World → Prop} {w : World} (h : sx51 x R w) : CallsW Try.prog 51 [.int .u64 x] w R :=
  callsW_of mix Try.func51 (by kernel_rfl) (by kernel_rfl) (Eq.mpr (by kernel_rfl : denFn Try.prog { sem := [15], named := [13, 17], loops := [(3, { slots := [(0, .int .u64), (3, .slice), (4, .int .i64)], cells := [] })] } Try.f51 [.int .u64 x] R w = sx51 x R w) h)


theorem rWord_ok {x : Int} {w : World} (h0 : 0 ≤ x) (h1 : x < u64m) : CallsW Try.prog 51 [.int .u64 x] w (Rets (Fresh w 5 (Enc.int .u8) (wordB x))) := by
  refine sx51.ok ?_
  unfold sx51
  intro b1 w2 hal
  have hoe := Own.alloc (E := Enc.int .u8) (l := []) hal (Nat.le_refl _) rfl (by decide)
  refine ⟨fun x' a' n' c' i w' => ∃ k : Nat, i = k ∧ k ≤ 8 ∧ x' = x / 256 ^ k ∧ Own w' w.heap.size 5 (Enc.int .u8) a' n' c' ((wordB x).take k) ∧ Grew w w', fun _ _ _ _ i _ => 8 - i.toNat, ⟨0, rfl, by decide, by simp, hoe, hal.grew⟩, ?_⟩
  rintro x' a' n' c' i w' ⟨k, rfl, hk, rfl, ho, hg⟩
  have hx0 : 0 ≤ x / 256 ^ k := Int.ediv_nonneg h0 (Int.le_of_lt (Int.pow_pos (by decide)))
  have hx1 : x / 256 ^ k < u64m := Int.lt_of_le_of_lt (Int.ediv_le_self _ h0) h1
  refine ⟨fun hlt => ⟨fun h => by simp at h, fun _ => ?_⟩, fun hge => ?_⟩
  · simp only [decide_eq_true_eq] at hlt
    rintro y rfl b1 w1 hal
    have hlen : ((wordB x).take k).length = k := by simp [wordB]; omega
    have hm : IntKind.u8.wrap (Int.tmod (x / 256 ^ k) 256) = x / 256 ^ k % 256 := by rw [Int.tmod_eq_emod_of_nonneg hx0, IntKind.wrap_u8']; omega
    refine append_new (l2 := [x / 256 ^ k % 256]) e8 ho hal (by rw [hm]; rfl) rfl hg.size (by simp [maxLen, hlen]; omega) (by simp [hlen]; omega) ?_
    rintro v w2 ⟨a2, n2, c2, rfl, ho2, hu2, hb2⟩
    refine ⟨a2, n2, c2, rfl, fun h => by simp at h, fun _ y hy => ?_⟩
    have hy' : y = x / 256 ^ (k + 1) := by
      rw [hy, Int.tdiv_eq_ediv_of_nonneg hx0, IntKind.wrap_u64, Int.pow_succ, ← Int.ediv_ediv_of_nonneg (Int.le_of_lt (Int.pow_pos (by decide)))]
      simp only [u64m] at hx1; omega
    subst hy'
    have hw : IntKind.i64.wrap ((k : Int) + 1) = ((k + 1 : Nat) : Int) := by rw [IntKind.wrap_i64]; omega
    rw [hw]
    refine ⟨⟨k + 1, rfl, by omega, rfl, ?_, hg.then_own hu2 fun b hb => (ho.blk hb).1⟩, by show 8 - (((k + 1 : Nat) : Int)).toNat < 8 - ((k : Int)).toNat; omega⟩
    have e : (wordB x)[k]? = some (x / 256 ^ k % 256) := by
      rcases (by omega : k = 0 ∨ k = 1 ∨ k = 2 ∨ k = 3 ∨ k = 4 ∨ k = 5 ∨ k = 6 ∨ k = 7) with rfl | rfl | rfl | rfl | rfl | rfl | rfl | rfl <;> simp [wordB]
    rw [take_snoc e]; exact ho2
  · simp only [decide_eq_false_iff_not] at hge
    have hk8 : k = 8 := by omega
    subst hk8
    exact ⟨_, rfl, a', n', c', rfl, ho, hg⟩
end Go.Proofs.Ytlkfkcgnlnbdeaa
