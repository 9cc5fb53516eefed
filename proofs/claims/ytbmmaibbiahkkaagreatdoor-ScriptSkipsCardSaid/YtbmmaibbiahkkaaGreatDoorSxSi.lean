/- What the laws over scripts ask of texts and lists. Conditions: none. -/
import Derived.Test.YtbmmaibbiahkkaaGreatDoorSxSc
import Derived.Test.YtbmmaibbiahkkaaGreatDoorSxSf
namespace Go.Sx
set_option linter.unusedSimpArgs false
open Go.Lib
theorem Nx {s : Ah} {e : Int} (h : stepT s = .error e) : e = 200 ∨ e = 1 := by
 unfold stepT at h
 split at h
 ·cases h; simp
 ·split at h
  ·cases h
  ·cases h; simp
theorem I7 : ∀ {l : List Ah} {e : Int}, A2 l = .error e → e = 200 ∨ e = 1
 | [], e, h => by cases h
 | s :: r, e, h => by
  simp only [A2] at h
  split at h
  ·rename_i e' he; cases h; exact Nx he
  ·split at h
   ·rename_i e' he; cases h; exact I7 he
   ·cases h
theorem Ny {p : ScrP} {steps : List Ah} {e : Int} (h : By p steps = .error e) : (e = 212 ∧ 4096 < steps.length) ∨ e = 200 ∨ e = 1 ∨ e = 6 := by
 unfold By at h
 split at h
 ·cases h; exact .inl ⟨rfl, by assumption⟩
 ·split at h
  ·rename_i e' he; cases h
   rcases I7 he with h | h <;> simp [h]
  ·split at h
   ·cases h; simp
   ·cases h
theorem Cy {n : Nat} {st : ScrS} {l : L8} {r : List L8} (h : Cp l = true) : Ai n st (l :: r) = Ai (n + 1) st r := by rw [Ai, if_pos h]
def Fa (note : L8) (ls : List L8) : List L8 := (35 :: note) :: (ls.map fun l => [l, [], 35 :: note]).flatten
theorem J5 (note : L8) (ls : List L8) : (Fa note ls).length = 1 + 3 * ls.length := by
 unfold Fa
 induction ls with
 | nil => rfl
 | cons l r ih => simp only [List.map_cons, List.flatten_cons, List.length_cons, List.length_append, List.length_nil] at ih ⊢; omega
theorem Pg {note : L8} {ls : List L8} (hn : (10 : UInt8) ∉ note) (hl : ∀ l ∈ ls, (10 : UInt8) ∉ l) : ∀ l ∈ Fa note ls, (10 : UInt8) ∉ l := by
 have h35 : (10 : UInt8) ∉ (35 :: note) := by simp only [List.mem_cons, not_or]; exact ⟨by decide, hn⟩
 intro l hm
 rcases List.mem_cons.1 hm with rfl | hm
 ·exact h35
 ·obtain ⟨x, hx, hm⟩ := List.mem_flatten.1 hm
  obtain ⟨y, hy, rfl⟩ := List.mem_map.1 hx
  simp only [List.mem_cons, List.mem_nil_iff, or_false] at hm
  rcases hm with rfl | rfl | rfl
  ·exact hl _ hy
  ·simp
  ·exact h35
theorem I8 {note : L8} : ∀ (ls : List L8) (n m : Nat) (st st' : ScrS), Ai n st ls = .ok st' → Ai m st (ls.map fun l => [l, [], 35 :: note]).flatten = .ok st'
 | [], n, m, st, st', h => by simpa [Ai] using h
 | l :: r, n, m, st, st', h => by
  simp only [List.map_cons, List.flatten_cons, List.cons_append, List.nil_append]
  have tail : ∀ (k : Nat) (st1 : ScrS) (R : List L8), Ai k st1 ([] :: (35 :: note) :: R) = Ai (k + 1 + 1) st1 R := fun k st1 R => by
   rw [Cy rfl, Cy rfl]
  simp only [Ai] at h
  by_cases hk : Cp l = true
  ·rw [if_pos hk] at h
   rw [Cy hk, tail]
   exact I8 r _ _ _ _ h
  ·rw [if_neg hk] at h
   rw [Ai, if_neg hk]
   cases hl : B5 st l with
   | error e => rw [hl] at h; cases h
   | ok st1 =>
    rw [hl] at h
    simp only
    rw [tail]
    exact I8 r _ _ _ _ h
theorem Ls {note : L8} {ls : List L8} {st : ScrS} (h : ∀ n, Ai n ⟨none, []⟩ ls = .ok st) (n : Nat) : Ai n ⟨none, []⟩ (Fa note ls) = .ok st := by
 unfold Fa
 rw [Cy rfl]
 exact I8 ls 0 _ _ _ (h 0)
theorem Gu {ls : List L8} {st : ScrS} {z : L8} (h10 : ∀ l ∈ ls, (10 : UInt8) ∉ l) (h : Ai 0 ⟨none, []⟩ ls = .ok st) (hl : (Ae ls ++ z).length ≤ 262144) :
  Bw (Ae ls ++ z) = match Ai ls.length st (Af 10 z) with | .error e => .error e | .ok st' => match st'.p with | none => .error (210, ls.length + (Af 10 z).length) | some p => .ok (p, st'.steps) := by
 unfold Bw
 rw [if_neg (by omega), E4 ls z h10, Dj, h]
 simp only [Nat.zero_add, List.length_append]
 cases Ai ls.length st (Af 10 z) <;> rfl
theorem Mo {p : ScrP} {steps : List Ah} {l w : L8} {as : List L8} (hl : Af 32 l = w :: as) (h : ¬ (w = opW ∧ steps = [])) (h4 : steps.length < 4096) (e : Int) (hs : Di (w :: as) = .error e) : B5 ⟨some p, steps⟩ l = .error e := by
 unfold B5
 rw [hl]
 simp only
 rw [if_neg h, if_neg (by omega), hs]
end Go.Sx
