/- What the laws over scripts ask of texts and lists. Conditions: none. -/
import Derived.Test.YtbmmaibbiahkkaaGreatDoorSxSc
import Derived.Test.YtbmmaibbiahkkaaGreatDoorSxSf
namespace Go.Sx
set_option linter.unusedSimpArgs false
open Go.Lib
theorem Kj {ls : List L8} {st : ScrS} {z : L8} (h10 : ∀ l ∈ ls, (10 : UInt8) ∉ l) (h : An 0 ⟨none, []⟩ ls = .ok st) (hl : (Ba ls ++ z).length ≤ 262144) :
  Bp (Ba ls ++ z) = match An ls.length st (Ad 10 z) with | .error e => .error e | .ok st' => match st'.p with | none => .error (210, ls.length + (Ad 10 z).length) | some p => .ok (p, st'.steps) := by
 unfold Bp
 rw [if_neg (by omega), B7 ls z h10, Ci, h]
 simp only [Nat.zero_add, List.length_append]
 cases An ls.length st (Ad 10 z) <;> rfl
theorem L6 {p : ScrP} {steps : List Ag} {l : L8} (h4 : steps.length = 4096) : B5 ⟨some p, steps⟩ l = .error 212 := by
 unfold B5
 have hne := Jh 32 l
 cases hs : Ad 32 l with
 | nil => exact absurd hs hne
 | cons w as =>
  simp only
  rw [if_neg (fun x => by rw [x.2] at h4; simp at h4), if_pos (by omega)]
end Go.Sx
