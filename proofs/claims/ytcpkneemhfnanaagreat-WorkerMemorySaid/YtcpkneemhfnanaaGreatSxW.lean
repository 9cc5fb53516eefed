/- Marks in plain lists: rising keys, their bytes, what Decode answers, unions. Conditions: none. -/
import Derived.Test.YtcpkneemhfnanaaGreatSxT
import Derived.Test.YtcpkneemhfnanaaGreatSxV
namespace Go.Sx
set_option linter.unusedSimpArgs false
set_option linter.unusedVariables false

/-! ### a list of what a reader reads -/
section
variable {α : Type}
variable {S : RdS → α × RdS} {pr : α → List Int} {ok : α → Prop}
end

/-! ### rising keys -/
def risingK : List Int → Bool
  | [] => true
  | [_] => true
  | x :: y :: r => decide (x < y) && risingK (y :: r)
theorem risingK_iff : ∀ (l : List Int), risingK l = true ↔ ∀ (i : Nat) (x y : Int), l[i]? = some x → l[i + 1]? = some y → x < y
  | [] => by simp [risingK]
  | [_] => by simp [risingK]
  | x :: y :: r => by
    rw [risingK, Bool.and_eq_true, decide_eq_true_eq, risingK_iff (y :: r)]
    constructor
    · rintro ⟨h1, h2⟩ i u v hu hv
      cases i with
      | zero => simp at hu hv; subst hu; subst hv; exact h1
      | succ i => exact h2 i u v (by simpa using hu) (by simpa using hv)
    · intro h
      exact ⟨h 0 x y rfl rfl, fun i u v hu hv => h (i + 1) u v (by simpa using hu) (by simpa using hv)⟩

/-! ### marks -/
structure MarkV where
  batch : Int
  attempt : Int
  keys : List Int
/-- keys that fit their type -/
def Keys64 (l : List Int) : Prop := ∀ x ∈ l, 0 ≤ x ∧ x < u64m
structure MarkV.Fits (m : MarkV) : Prop where
  b0 : -9223372036854775808 ≤ m.batch
  b1 : m.batch < 9223372036854775808
  a0 : -9223372036854775808 ≤ m.attempt
  a1 : m.attempt < 9223372036854775808
  ks : Keys64 m.keys
/-! ### unions -/
theorem sortL_perm (l : List Int) : (sortL l).Perm l := List.mergeSort_perm l _
theorem sortL_sorted (l : List Int) : (sortL l).Pairwise (· ≤ ·) := by
  have := List.pairwise_mergeSort (le := fun x y : Int => decide (x ≤ y)) (fun a b c => by simp; omega) (fun a b => by simp; omega) l
  unfold sortL
  exact this.imp fun h => by simpa using h
end Go.Sx
