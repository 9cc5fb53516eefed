/- What the laws over scripts ask of texts and lists. Conditions: none. -/
import Derived.Test.YtbmmaibbiahkkaaGreatDoorSxSc
import Derived.Test.YtbmmaibbiahkkaaGreatDoorSxSf
namespace Go.Sx
set_option linter.unusedSimpArgs false
open Go.Lib
theorem Nf {s : Ag} {e : Int} (h : stepT s = .error e) : e = 200 ∨ e = 1 := by
 unfold stepT at h
 split at h
 ·cases h; simp
 ·split at h
  ·cases h
  ·cases h; simp
theorem Ir : ∀ {l : List Ag} {e : Int}, Aq l = .error e → e = 200 ∨ e = 1
 | [], e, h => by cases h
 | s :: r, e, h => by
  simp only [Aq] at h
  split at h
  ·rename_i e' he; cases h; exact Nf he
  ·split at h
   ·rename_i e' he; cases h; exact Ir he
   ·cases h
theorem Ng {p : ScrP} {steps : List Ag} {e : Int} (h : Be p steps = .error e) : (e = 212 ∧ 4096 < steps.length) ∨ e = 200 ∨ e = 1 ∨ e = 6 := by
 unfold Be at h
 split at h
 ·cases h; exact .inl ⟨rfl, by assumption⟩
 ·split at h
  ·rename_i e' he; cases h
   rcases Ir he with h | h <;> simp [h]
  ·split at h
   ·cases h; simp
   ·cases h
theorem L4 {p : ScrP} {steps : List Ag} {t : L8} (h : Be p steps = .ok t) (k : Nat) : ∃ u, Be p (steps.take k) = .ok u ∧ u <+: t := by
 unfold Be at h
 split at h
 ·cases h
 ·rename_i h4
  split at h
  ·cases h
  ·rename_i b hb
   split at h
   ·cases h
   ·rename_i hlen
    cases h
    have hs := stepsT_app (steps.take k) (steps.drop k)
    rw [List.take_append_drop, hb] at hs
    cases ha : Aq (steps.take k) with
    | error e => rw [ha] at hs; cases hs
    | ok a =>
     rw [ha] at hs
     simp only at hs
     cases hd : Aq (steps.drop k) with
     | error e => rw [hd] at hs; cases hs
     | ok d =>
      rw [hd] at hs
      simp only [Except.ok.injEq] at hs
      subst hs
      have e : Cm p ++ (opsT p.ops ++ (a ++ d)) = (Cm p ++ (opsT p.ops ++ a)) ++ d := by simp
      rw [e] at hlen ⊢
      refine ⟨Cm p ++ (opsT p.ops ++ a), ?_, List.prefix_append _ _⟩
      unfold Be
      rw [if_neg (by rw [List.length_take]; omega), ha]
      simp only
      rw [if_neg (by rw [List.length_append] at hlen; omega)]
end Go.Sx
