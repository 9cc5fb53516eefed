/- Numbers' digits in lists of bytes: decimal, signed, sixteen hexadecimal. Conditions: none. -/
import Derived.Lib.ItoaNum
import Derived.Lib.ParseIntBCases
namespace Go.Sx
open Go.Lib
abbrev L8 := List UInt8
def isDg (c : UInt8) : Prop := 48 ≤ c.toNat ∧ c.toNat ≤ 57
instance (c : UInt8) : Decidable (isDg c) := inferInstanceAs (Decidable (_ ∧ _))
def dgS (n : Nat) (c : UInt8) : Nat := n * 10 + (c.toNat - 48)
def natD (a : Nat) (l : L8) : Nat := l.foldl dgS a
theorem Fi (a : Nat) (c : UInt8) (r : L8) : natD a (c :: r) = natD (a * 10 + (c.toNat - 48)) r := by unfold natD; rw [List.foldl_cons, dgS]
theorem Gi (a : Nat) : natD a [] = a := by unfold natD; rw [List.foldl_nil]
theorem N1 (l r : L8) (a : Nat) : natD a (l ++ r) = natD (natD a l) r := by unfold natD; rw [List.foldl_append]
theorem M2 (l : L8) (a : Nat) (c : UInt8) : natD a (l ++ [c]) = natD a l * 10 + (c.toNat - 48) := by rw [N1, Fi, Gi]
theorem Mo : ∀ (l : L8) (a : Nat), a ≤ natD a l
 | [], a => by rw [Gi]; exact Nat.le_refl _
 | c :: l, a => by rw [Fi]; exact Nat.le_trans (by omega) (Mo l (a * 10 + (c.toNat - 48)))
theorem Ez {n : Nat} (h : n < 256) : (UInt8.ofNat n).toNat = n := by
 rw [UInt8.toNat_ofNat']; exact Nat.mod_eq_of_lt h
theorem P2 {c : UInt8} {n : Nat} (h : c.toNat = n) : UInt8.ofNat n = c := by subst h; exact UInt8.ofNat_toNat
theorem Dv {u : Nat} (h : u < 10) : decDigits u = [UInt8.ofNat (48 + u)] := by rw [decDigits, dif_pos h]
theorem Hk {u : Nat} (h : ¬ u < 10) : decDigits u = decDigits (u / 10) ++ [UInt8.ofNat (48 + u % 10)] := by rw [decDigits, dif_neg h]
theorem Ib (u : Nat) : ∀ c ∈ decDigits u, isDg c := by
 induction u using Nat.strongRecOn with
 | _ u ih =>
  by_cases h : u < 10
  ·rw [Dv h]; intro c hc; rw [List.mem_singleton] at hc; subst hc
   unfold isDg; rw [Ez (by omega)]; omega
  ·rw [Hk h]; intro c hc
   rcases List.mem_append.1 hc with hc | hc
   ·exact ih _ (by omega) c hc
   ·rw [List.mem_singleton] at hc; subst hc
    unfold isDg; rw [Ez (by omega)]; omega
theorem Ic (u : Nat) : natD 0 (decDigits u) = u := by
 induction u using Nat.strongRecOn with
 | _ u ih =>
  by_cases h : u < 10
  ·rw [Dv h, Fi, Gi, Ez (by omega)]; omega
  ·rw [Hk h, M2, ih _ (by omega), Ez (by omega)]; omega
theorem Lv (u : Nat) : decDigits u ≠ [] := by
 by_cases h : u < 10
 ·rw [Dv h]; simp
 ·rw [Hk h]; simp
def keyL (l : L8) : Option Nat := if l = decDigits (natD 0 l) ∧ natD 0 l < 18446744073709551616 then some (natD 0 l) else none
theorem E0 {l : L8} {n : Nat} : keyL l = some n ↔ l = decDigits n ∧ n < 18446744073709551616 := by
 unfold keyL
 constructor
 ·intro h
  split at h
  ·rename_i h'; cases h; exact h'
  ·cases h
 ·rintro ⟨rfl, h⟩
  rw [Ic, if_pos ⟨rfl, h⟩]
theorem Ie {n : Nat} (h : n < 18446744073709551616) : keyL (decDigits n) = some n := E0.2 ⟨rfl, h⟩
def numL (l : L8) : Option Int :=
 match l with
 | c :: r => if c = 45 then (match keyL r with
   | some n => if n = 0 ∨ 9223372036854775808 < n then none else some (-(n : Int))
   | none => none)
  else (match keyL l with
   | some n => if 9223372036854775807 < n then none else some (n : Int)
   | none => none)
 | [] => none
theorem N2 (u : Nat) (r : L8) : decDigits u ≠ 45 :: r := fun e => by
 have := Ib u 45 (by rw [e]; simp)
 unfold isDg at this
 simp at this
theorem itoa_neg {v : Int} (h : v < 0) : itoa v = 45 :: decDigits v.natAbs := by unfold itoa; rw [if_pos h]
theorem E1 {v : Int} (h : ¬ v < 0) : itoa v = decDigits v.toNat := by unfold itoa; rw [if_neg h]
theorem If {l : L8} {v : Int} : numL l = some v ↔ l = itoa v ∧ -9223372036854775808 ≤ v ∧ v ≤ 9223372036854775807 := by
 constructor
 ·intro h
  unfold numL at h
  split at h
  ·rename_i c r
   split at h
   ·rename_i hc
    split at h
    ·rename_i n hk
     split at h
     ·cases h
     ·cases h
      obtain ⟨e, hn⟩ := E0.1 hk
      refine ⟨?_, by omega, by omega⟩
      rw [itoa_neg (by omega), hc, e]
      congr 2; omega
    ·cases h
   ·split at h
    ·rename_i n hk
     split at h
     ·cases h
     ·cases h
      obtain ⟨e, hn⟩ := E0.1 hk
      refine ⟨?_, by omega, by omega⟩
      rw [E1 (by omega), e]; rfl
    ·cases h
  ·cases h
 ·rintro ⟨rfl, h1, h2⟩
  by_cases hv : v < 0
  ·rw [itoa_neg hv]
   unfold numL
   simp only [if_true]
   rw [Ie (by omega)]
   simp only
   rw [if_neg (by omega)]
   congr 1; omega
  ·rw [E1 hv]
   obtain ⟨c, r, e⟩ : ∃ c r, decDigits v.toNat = c :: r := by
    cases h : decDigits v.toNat with
    | nil => exact (Lv _ h).elim
    | cons c r => exact ⟨c, r, rfl⟩
   have hc : c ≠ 45 := fun hc => N2 _ r (by rw [e, hc])
   have hk := Ie (n := v.toNat) (by omega)
   rw [e] at hk ⊢
   unfold numL
   simp only
   rw [if_neg hc, hk]
   simp only
   rw [if_neg (by omega)]
   congr 1; omega
theorem Dw {v : Int} (h : -9223372036854775808 ≤ v ∧ v ≤ 9223372036854775807) : numL (itoa v) = some v := If.2 ⟨rfl, h⟩
def hexV (c : UInt8) : Option Nat := if 48 ≤ c.toNat ∧ c.toNat ≤ 57 then some (c.toNat - 48) else if 97 ≤ c.toNat ∧ c.toNat ≤ 102 then some (c.toNat - 87) else none
def hexc (d : Nat) : UInt8 := if d < 10 then UInt8.ofNat (48 + d) else UInt8.ofNat (87 + d)
theorem Jb {d : Nat} (h : d < 16) : hexV (hexc d) = some d := by
 unfold hexc hexV
 split <;> rw [Ez (by omega)]
 ·rw [if_pos (by omega)]; congr 1; omega
 ·rw [if_neg (by omega), if_pos (by omega)]; congr 1; omega
theorem Jc {c : UInt8} {d : Nat} (h : hexV c = some d) : d < 16 ∧ hexc d = c := by
 unfold hexV at h
 split at h
 ·cases h
  refine ⟨by omega, ?_⟩
  unfold hexc; rw [if_pos (by omega)]; exact P2 (by omega)
 ·split at h
  ·cases h
   refine ⟨by omega, ?_⟩
   unfold hexc; rw [if_neg (by omega)]; exact P2 (by omega)
  ·cases h
def hxS (n : Nat) (c : UInt8) : Nat := n * 16 + (hexV c).getD 0
def hexN (a : Nat) (l : L8) : Nat := l.foldl hxS a
theorem Fj (l : L8) (a : Nat) (c : UInt8) : hexN a (l ++ [c]) = hexN a l * 16 + (hexV c).getD 0 := by unfold hexN; rw [List.foldl_append, List.foldl_cons, List.foldl_nil, hxS]
def hexK : Nat → Nat → L8
 | 0, _ => []
 | k + 1, b => hexK k (b / 16) ++ [hexc (b % 16)]
theorem C5 : ∀ (k b : Nat), (hexK k b).length = k
 | 0, _ => rfl
 | k + 1, b => by simp [hexK, C5 k]
theorem Ig : ∀ (k b : Nat), ∀ c ∈ hexK k b, (hexV c).isSome = true
 | 0, _, c, h => by simp [hexK] at h
 | k + 1, b, c, h => by
  simp only [hexK, List.mem_append, List.mem_singleton] at h
  rcases h with h | rfl
  ·exact Ig k _ c h
  ·rw [Jb (Nat.mod_lt _ (by decide))]; rfl
theorem Jd : ∀ (k b : Nat), b < 16 ^ k → hexN 0 (hexK k b) = b
 | 0, b, h => by simp at h; subst h; rfl
 | k + 1, b, h => by
  rw [Nat.pow_succ] at h
  simp only [hexK, Fj]
  rw [Jd k (b / 16) (by omega), Jb (Nat.mod_lt _ (by decide))]
  simp only [Option.getD_some]; omega
theorem Je : ∀ (k : Nat) (l : L8), l.length = k → (∀ c ∈ l, (hexV c).isSome = true) → hexK k (hexN 0 l) = l ∧ hexN 0 l < 16 ^ k
 | 0, l, h, _ => by
  have := List.eq_nil_of_length_eq_zero h
  subst this
  exact ⟨rfl, by decide⟩
 | k + 1, l, h, hx => by
  have hn : l ≠ [] := fun e => by subst e; simp at h
  obtain ⟨i, c, rfl⟩ : ∃ i c, l = i ++ [c] := ⟨_, _, (List.dropLast_concat_getLast hn).symm⟩
  obtain ⟨e1, e2⟩ := Je k i (by simpa using h) fun c hc => hx c (by simp [hc])
  obtain ⟨d, hd⟩ := Option.isSome_iff_exists.1 (hx c (by simp))
  obtain ⟨h1, h2⟩ := Jc hd
  rw [Fj, hd]
  simp only [Option.getD_some, hexK]
  rw [show (hexN 0 i * 16 + d) / 16 = hexN 0 i from by omega, show (hexN 0 i * 16 + d) % 16 = d from by omega, e1, h2]
  exact ⟨rfl, by rw [Nat.pow_succ]; omega⟩
def fltL (l : L8) : Option Nat := if l.length = 16 ∧ ∀ c ∈ l, (hexV c).isSome = true then some (hexN 0 l) else none
theorem N3 {l : L8} {b : Nat} : fltL l = some b ↔ l = hexK 16 b ∧ b < 18446744073709551616 := by
 constructor
 ·intro h
  unfold fltL at h
  split at h
  ·rename_i h'
   cases h
   obtain ⟨e1, e2⟩ := Je 16 l h'.1 h'.2
   exact ⟨e1.symm, e2⟩
  ·cases h
 ·rintro ⟨rfl, h⟩
  unfold fltL
  rw [if_pos ⟨C5 _ _, Ig _ _⟩, Jd 16 b h]
theorem Kw {b : Nat} (h : b < 18446744073709551616) : fltL (hexK 16 b) = some b := N3.2 ⟨rfl, h⟩
def hexm (u : Nat) : L8 := if _h : u < 16 then [hexc u] else hexm (u / 16) ++ [hexc (u % 16)]
termination_by u
decreasing_by omega
theorem Fz {u : Nat} (h : u < 16) : hexm u = [hexc u] := by rw [hexm, dif_pos h]
theorem Kx {u : Nat} (h : ¬ u < 16) : hexm u = hexm (u / 16) ++ [hexc (u % 16)] := by rw [hexm, dif_neg h]
theorem Jf : ∀ k : Nat, hexK k 0 = List.replicate k 48
 | 0 => rfl
 | k + 1 => by
  rw [List.replicate_succ', hexK, show 0 / 16 = 0 from rfl, Jf k]; rfl
theorem Jg : ∀ (k b : Nat), b < 16 ^ (k + 1) → hexK (k + 1) b = List.replicate (k + 1 - (hexm b).length) 48 ++ hexm b ∧ (hexm b).length ≤ k + 1
 | 0, b, h => by
  have h : b < 16 := by simpa using h
  rw [Fz h]
  refine ⟨?_, by simp⟩
  simp [hexK, Nat.mod_eq_of_lt h]
 | k + 1, b, h => by
  by_cases hb : b < 16
  ·rw [Fz hb]
   refine ⟨?_, by simp⟩
   simp only [hexK, List.length_singleton, Nat.mod_eq_of_lt hb, Nat.div_eq_of_lt hb]
   have := Jf (k + 1)
   simp only [hexK] at this
   rw [this]; rfl
  ·rw [Nat.pow_succ] at h
   obtain ⟨e1, e2⟩ := Jg k (b / 16) (by omega)
   rw [Kx hb]
   refine ⟨?_, by simp; omega⟩
   show hexK (k + 1) (b / 16) ++ [hexc (b % 16)] = _
   rw [e1, List.length_append, List.length_singleton, List.append_assoc]
   congr 2
   omega
end Go.Sx
