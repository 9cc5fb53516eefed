/- What the laws over scripts ask of texts and lists. Conditions: none. -/
import Derived.Test.YtbmmaibbiahkkaaGreatDoorSxSc
import Derived.Test.YtbmmaibbiahkkaaGreatDoorSxSf
namespace Go.Sx
set_option linter.unusedSimpArgs false
open Go.Lib
theorem Mq {l : List L8} {e : Int} (h : D9 l = .error e) : e = 210 ∨ e = 211 := by
 unfold D9 at h
 split at h
 ·cases h; simp
 ·split at h
  ·cases h; simp
  ·split at h
   ·cases h; simp
   ·cases h
theorem Mr {st : ScrS} {l : L8} {e : Int} (h : Cl st l = .error e) : e = 210 ∨ e = 211 ∨ e = 212 := by
 unfold Cl at h
 split at h
 ·cases h; simp
 ·split at h
  ·split at h
   ·split at h
    ·cases h
    ·cases h; simp
   ·cases h; simp
  ·split at h
   ·split at h
    ·cases h
    ·cases h; simp
   ·split at h
    ·cases h; simp
    ·split at h
     ·rename_i e' he
      cases h
      rcases Mq he with h | h <;> simp [h]
     ·cases h
theorem E0 : ∀ (l : List L8) (n : Nat) (st : ScrS) (e : Int) (m : Nat), A1 n st l = .error (e, m) → (e = 210 ∨ e = 211 ∨ e = 212) ∧ n < m ∧ m ≤ n + l.length
 | [], n, st, e, m, h => by simp [A1] at h
 | x :: l, n, st, e, m, h => by
  simp only [A1] at h
  split at h
  ·have := E0 l (n + 1) st e m h
   simp only [List.length_cons]; omega
  ·split at h
   ·rename_i e' he
    cases h
    have := Mr he
    simp only [List.length_cons]; omega
   ·have := E0 l (n + 1) _ e m h
    simp only [List.length_cons]; omega
theorem Ms {t : L8} {e : Int} {m : Nat} (h : Bs t = .error (e, m)) : (262144 < t.length ∧ e = 6 ∧ m = 0) ∨ (t.length ≤ 262144 ∧ (e = 210 ∨ e = 211 ∨ e = 212) ∧ 0 < m ∧ m ≤ t.length + 1) := by
 unfold Bs at h
 split at h
 ·cases h; exact .inl ⟨by assumption, rfl, rfl⟩
 ·rename_i hl
  right
  have hc : (Ac 10 t).length ≤ t.length + 1 := by rw [B4]; have := List.count_le_length (l := t) (a := (10 : UInt8)); omega
  have hne : 0 < (Ac 10 t).length := List.length_pos_iff.2 (Dr 10 t)
  split at h
  ·rename_i x hx
   cases h
   have := E0 _ _ _ _ _ hx
   omega
  ·split at h
   ·cases h; simp; omega
   ·cases h
end Go.Sx
