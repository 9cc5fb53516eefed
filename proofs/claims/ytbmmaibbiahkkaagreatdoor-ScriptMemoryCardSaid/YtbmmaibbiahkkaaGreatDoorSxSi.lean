/- What the laws over scripts ask of texts and lists. Conditions: none. -/
import Derived.Test.YtbmmaibbiahkkaaGreatDoorSxSc
import Derived.Test.YtbmmaibbiahkkaaGreatDoorSxSf
namespace Go.Sx
set_option linter.unusedSimpArgs false
open Go.Lib
theorem Nn {s : Af} {e : Int} (h : stepT s = .error e) : e = 200 ∨ e = 1 := by
 unfold stepT at h
 split at h
 ·cases h; simp
 ·split at h
  ·cases h
  ·cases h; simp
theorem Ix : ∀ {l : List Af} {e : Int}, A5 l = .error e → e = 200 ∨ e = 1
 | [], e, h => by cases h
 | s :: r, e, h => by
  simp only [A5] at h
  split at h
  ·rename_i e' he; cases h; exact Nn he
  ·split at h
   ·rename_i e' he; cases h; exact Ix he
   ·cases h
theorem No {p : ScrP} {steps : List Af} {e : Int} (h : Bm p steps = .error e) : (e = 212 ∧ 4096 < steps.length) ∨ e = 200 ∨ e = 1 ∨ e = 6 := by
 unfold Bm at h
 split at h
 ·cases h; exact .inl ⟨rfl, by assumption⟩
 ·split at h
  ·rename_i e' he; cases h
   rcases Ix he with h | h <;> simp [h]
  ·split at h
   ·cases h; simp
   ·cases h
end Go.Sx
