/- Numbers' digits in lists of bytes: decimal, signed, sixteen hexadecimal. Conditions: none. -/
import Derived.Lib.ItoaNum
import Derived.Lib.ParseIntBCases
namespace Go.Sx
open Go.Lib
abbrev L8 := List UInt8
def isDg (c : UInt8) : Prop := 48 ≤ c.toNat ∧ c.toNat ≤ 57
instance (c : UInt8) : Decidable (isDg c) := inferInstanceAs (Decidable (_ ∧ _))
def dgS (n : Nat) (c : UInt8) : Nat := n * 10 + (c.toNat - 48)
def natD (a : Nat) (l : L8) : Nat := l.foldl dgS a
theorem C2 (a : Nat) (c : UInt8) (r : L8) : natD a (c :: r) = natD (a * 10 + (c.toNat - 48)) r := by unfold natD; rw [List.foldl_cons, dgS]
theorem C7 (a : Nat) : natD a [] = a := by unfold natD; rw [List.foldl_nil]
theorem Ke (l r : L8) (a : Nat) : natD a (l ++ r) = natD (natD a l) r := by unfold natD; rw [List.foldl_append]
theorem Gq (l : L8) (a : Nat) (c : UInt8) : natD a (l ++ [c]) = natD a l * 10 + (c.toNat - 48) := by rw [Ke, C2, C7]
theorem Ha : ∀ (l : L8) (a : Nat), a ≤ natD a l
 | [], a => by rw [C7]; exact Nat.le_refl _
 | c :: l, a => by rw [C2]; exact Nat.le_trans (by omega) (Ha l (a * 10 + (c.toNat - 48)))
theorem Ew {n : Nat} (h : n < 256) : (UInt8.ofNat n).toNat = n := by
 rw [UInt8.toNat_ofNat']; exact Nat.mod_eq_of_lt h
theorem Ly {c : UInt8} {n : Nat} (h : c.toNat = n) : UInt8.ofNat n = c := by subst h; exact UInt8.ofNat_toNat
theorem B9 {u : Nat} (h : u < 10) : decDigits u = [UInt8.ofNat (48 + u)] := by rw [decDigits, dif_pos h]
theorem Fb {u : Nat} (h : ¬ u < 10) : decDigits u = decDigits (u / 10) ++ [UInt8.ofNat (48 + u % 10)] := by rw [decDigits, dif_neg h]
theorem Jl (u : Nat) : ∀ c ∈ decDigits u, isDg c := by
 induction u using Nat.strongRecOn with
 | _ u ih =>
  by_cases h : u < 10
  ·rw [B9 h]; intro c hc; rw [List.mem_singleton] at hc; subst hc
   unfold isDg; rw [Ew (by omega)]; omega
  ·rw [Fb h]; intro c hc
   rcases List.mem_append.1 hc with hc | hc
   ·exact ih _ (by omega) c hc
   ·rw [List.mem_singleton] at hc; subst hc
    unfold isDg; rw [Ew (by omega)]; omega
theorem F7 (u : Nat) : natD 0 (decDigits u) = u := by
 induction u using Nat.strongRecOn with
 | _ u ih =>
  by_cases h : u < 10
  ·rw [B9 h, C2, C7, Ew (by omega)]; omega
  ·rw [Fb h, Gq, ih _ (by omega), Ew (by omega)]; omega
theorem Jm (u : Nat) : decDigits u ≠ [] := by
 by_cases h : u < 10
 ·rw [B9 h]; simp
 ·rw [Fb h]; simp
theorem M4 (u : Nat) (h : 0 < u) : ∃ c r, decDigits u = c :: r ∧ c.toNat ≠ 48 := by
 induction u using Nat.strongRecOn with
 | _ u ih =>
  by_cases h' : u < 10
  ·rw [B9 h']; exact ⟨_, _, rfl, by rw [Ew (by omega)]; omega⟩
  ·obtain ⟨c, r, e, hc⟩ := ih (u / 10) (by omega) (by omega)
   rw [Fb h', e]; exact ⟨c, _, rfl, hc⟩
theorem Pe : ∀ (k : Nat) (l : L8), l.length = k → l ≠ [] → (∀ c ∈ l, isDg c) → (l.length = 1 ∨ ∃ c r, l = c :: r ∧ c.toNat ≠ 48) → decDigits (natD 0 l) = l := by
 intro k
 induction k with
 | zero => intro l hl hn _ _; exact (hn (List.eq_nil_of_length_eq_zero hl)).elim
 | succ k ih =>
  intro l hl hn hd hc
  obtain ⟨i, c, rfl⟩ : ∃ i c, l = i ++ [c] := ⟨_, _, (List.dropLast_concat_getLast hn).symm⟩
  have hcd := hd c (by simp)
  unfold isDg at hcd
  by_cases hi : i = []
  ·subst hi
   rw [List.nil_append, C2, C7, B9 (by omega)]
   congr 1; exact Ly (by omega)
  ·have hil : i.length = k := by simpa using hl
   have hc' : ∃ a r, i = a :: r ∧ a.toNat ≠ 48 := by
    rcases hc with h | ⟨a, r, h, h2⟩
    ·simp at h; exact (hi h).elim
    ·cases i with
     | nil => exact (hi rfl).elim
     | cons x i => simp at h; exact ⟨x, i, rfl, by rw [h.1]; exact h2⟩
   have hdi : ∀ c ∈ i, isDg c := fun c h => hd c (by simp [h])
   have e := ih i hil hi hdi (.inr hc')
   have hpos : 1 ≤ natD 0 i := by
    obtain ⟨a, r, rfl, ha⟩ := hc'
    have := Ha r (0 * 10 + (a.toNat - 48))
    have had := hdi a (by simp)
    unfold isDg at had
    rw [C2]; omega
   rw [Gq, Fb (by omega), show (natD 0 i * 10 + (c.toNat - 48)) / 10 = natD 0 i from by omega, e, show (natD 0 i * 10 + (c.toNat - 48)) % 10 = c.toNat - 48 from by omega]
   congr 2; exact Ly (by omega)
def keyL (l : L8) : Option Nat := if l = decDigits (natD 0 l) ∧ natD 0 l < 18446744073709551616 then some (natD 0 l) else none
theorem Ck {l : L8} {n : Nat} : keyL l = some n ↔ l = decDigits n ∧ n < 18446744073709551616 := by
 unfold keyL
 constructor
 ·intro h
  split at h
  ·rename_i h'; cases h; exact h'
  ·cases h
 ·rintro ⟨rfl, h⟩
  rw [F7, if_pos ⟨rfl, h⟩]
theorem Kf {n : Nat} (h : n < 18446744073709551616) : keyL (decDigits n) = some n := Ck.2 ⟨rfl, h⟩
theorem Mg {l : L8} (h : ∀ n, n < 18446744073709551616 → l ≠ decDigits n) : keyL l = none := by
 cases hk : keyL l with
 | none => rfl
 | some n => obtain ⟨a, b⟩ := Ck.1 hk; exact (h n b a).elim
theorem Ol {l : L8} (hn : l ≠ []) (hd : ∀ c ∈ l, isDg c) (hc : l.length = 1 ∨ ∃ c r, l = c :: r ∧ c.toNat ≠ 48) (hm : natD 0 l < 18446744073709551616) : keyL l = some (natD 0 l) :=
 Ck.2 ⟨(Pe _ l rfl hn hd hc).symm, hm⟩
theorem L0 {l : L8} (h : l = [] ∨ (∃ c ∈ l, ¬ isDg c) ∨ (1 < l.length ∧ ∃ c r, l = c :: r ∧ c.toNat = 48) ∨ 18446744073709551616 ≤ natD 0 l) : keyL l = none := by
 refine Mg fun n hn e => ?_
 subst e
 rcases h with h | ⟨c, hc, h⟩ | ⟨h1, c, r, h, h2⟩ | h
 ·exact Jm n h
 ·exact h (Jl n c hc)
 ·by_cases h0 : n = 0
  ·subst h0; rw [B9 (by decide)] at h1; simp at h1
  ·obtain ⟨c', r', e, hc⟩ := M4 n (by omega)
   rw [e] at h; cases h; exact hc h2
 ·rw [F7] at h; omega
def numL (l : L8) : Option Int :=
 match l with
 | c :: r => if c = 45 then (match keyL r with
   | some n => if n = 0 ∨ 9223372036854775808 < n then none else some (-(n : Int))
   | none => none)
  else (match keyL l with
   | some n => if 9223372036854775807 < n then none else some (n : Int)
   | none => none)
 | [] => none
theorem M5 (u : Nat) (r : L8) : decDigits u ≠ 45 :: r := fun e => by
 have := Jl u 45 (by rw [e]; simp)
 unfold isDg at this
 simp at this
theorem itoa_neg {v : Int} (h : v < 0) : itoa v = 45 :: decDigits v.natAbs := by unfold itoa; rw [if_pos h]
theorem F8 {v : Int} (h : ¬ v < 0) : itoa v = decDigits v.toNat := by unfold itoa; rw [if_neg h]
theorem Kg {l : L8} {v : Int} : numL l = some v ↔ l = itoa v ∧ -9223372036854775808 ≤ v ∧ v ≤ 9223372036854775807 := by
 constructor
 ·intro h
  unfold numL at h
  split at h
  ·rename_i c r
   split at h
   ·rename_i hc
    split at h
    ·rename_i n hk
     split at h
     ·cases h
     ·cases h
      obtain ⟨e, hn⟩ := Ck.1 hk
      refine ⟨?_, by omega, by omega⟩
      rw [itoa_neg (by omega), hc, e]
      congr 2; omega
    ·cases h
   ·split at h
    ·rename_i n hk
     split at h
     ·cases h
     ·cases h
      obtain ⟨e, hn⟩ := Ck.1 hk
      refine ⟨?_, by omega, by omega⟩
      rw [F8 (by omega), e]; rfl
    ·cases h
  ·cases h
 ·rintro ⟨rfl, h1, h2⟩
  by_cases hv : v < 0
  ·rw [itoa_neg hv]
   unfold numL
   simp only [if_true]
   rw [Kf (by omega)]
   simp only
   rw [if_neg (by omega)]
   congr 1; omega
  ·rw [F8 hv]
   obtain ⟨c, r, e⟩ : ∃ c r, decDigits v.toNat = c :: r := by
    cases h : decDigits v.toNat with
    | nil => exact (Jm _ h).elim
    | cons c r => exact ⟨c, r, rfl⟩
   have hc : c ≠ 45 := fun hc => M5 _ r (by rw [e, hc])
   have hk := Kf (n := v.toNat) (by omega)
   rw [e] at hk ⊢
   unfold numL
   simp only
   rw [if_neg hc, hk]
   simp only
   rw [if_neg (by omega)]
   congr 1; omega
def hexV (c : UInt8) : Option Nat := if 48 ≤ c.toNat ∧ c.toNat ≤ 57 then some (c.toNat - 48) else if 97 ≤ c.toNat ∧ c.toNat ≤ 102 then some (c.toNat - 87) else none
def hexc (d : Nat) : UInt8 := if d < 10 then UInt8.ofNat (48 + d) else UInt8.ofNat (87 + d)
theorem Mh {c : UInt8} {d : Nat} (h : hexV c = some d) : d < 16 ∧ hexc d = c := by
 unfold hexV at h
 split at h
 ·cases h
  refine ⟨by omega, ?_⟩
  unfold hexc; rw [if_pos (by omega)]; exact Ly (by omega)
 ·split at h
  ·cases h
   refine ⟨by omega, ?_⟩
   unfold hexc; rw [if_neg (by omega)]; exact Ly (by omega)
  ·cases h
def hxS (n : Nat) (c : UInt8) : Nat := n * 16 + (hexV c).getD 0
def hexN (a : Nat) (l : L8) : Nat := l.foldl hxS a
theorem Gr (l : L8) (a : Nat) (c : UInt8) : hexN a (l ++ [c]) = hexN a l * 16 + (hexV c).getD 0 := by unfold hexN; rw [List.foldl_append, List.foldl_cons, List.foldl_nil, hxS]
def hexK : Nat → Nat → L8
 | 0, _ => []
 | k + 1, b => hexK k (b / 16) ++ [hexc (b % 16)]
theorem Dw : ∀ (k b : Nat), (hexK k b).length = k
 | 0, _ => rfl
 | k + 1, b => by simp [hexK, Dw k]
def fltL (l : L8) : Option Nat := if l.length = 16 ∧ ∀ c ∈ l, (hexV c).isSome = true then some (hexN 0 l) else none
def hexm (u : Nat) : L8 := if _h : u < 16 then [hexc u] else hexm (u / 16) ++ [hexc (u % 16)]
termination_by u
decreasing_by omega
theorem Fq {u : Nat} (h : u < 16) : hexm u = [hexc u] := by rw [hexm, dif_pos h]
theorem Kh {u : Nat} (h : ¬ u < 16) : hexm u = hexm (u / 16) ++ [hexc (u % 16)] := by rw [hexm, dif_neg h]
theorem Iu : ∀ k : Nat, hexK k 0 = List.replicate k 48
 | 0 => rfl
 | k + 1 => by
  rw [List.replicate_succ', hexK, show 0 / 16 = 0 from rfl, Iu k]; rfl
theorem Iv : ∀ (k b : Nat), b < 16 ^ (k + 1) → hexK (k + 1) b = List.replicate (k + 1 - (hexm b).length) 48 ++ hexm b ∧ (hexm b).length ≤ k + 1
 | 0, b, h => by
  have h : b < 16 := by simpa using h
  rw [Fq h]
  refine ⟨?_, by simp⟩
  simp [hexK, Nat.mod_eq_of_lt h]
 | k + 1, b, h => by
  by_cases hb : b < 16
  ·rw [Fq hb]
   refine ⟨?_, by simp⟩
   simp only [hexK, List.length_singleton, Nat.mod_eq_of_lt hb, Nat.div_eq_of_lt hb]
   have := Iu (k + 1)
   simp only [hexK] at this
   rw [this]; rfl
  ·rw [Nat.pow_succ] at h
   obtain ⟨e1, e2⟩ := Iv k (b / 16) (by omega)
   rw [Kh hb]
   refine ⟨?_, by simp; omega⟩
   show hexK (k + 1) (b / 16) ++ [hexc (b % 16)] = _
   rw [e1, List.length_append, List.length_singleton, List.append_assoc]
   congr 2
   omega
end Go.Sx
