/- The reference's lines printed. Conditions: none. -/
import Derived.Test.YtbmmaibbiahkkaaGreatDoorProg
import Derived.Test.YtbmmaibbiahkkaaGreatDoorScrX
import Derived.Test.YtbmmaibbiahkkaaGreatDoorScrQ
namespace Go.Proofs.YtbmmaibbiahkkaaGreatDoor
open Go.Sx
set_option maxRecDepth 100000
set_option linter.unusedVariables false
set_option linter.unusedSimpArgs false
def Pf : Except Int L8 → Value
 | .ok t => .tuple #[.string (bs t), .int .i64 0]
 | .error e => .tuple #[.string (bs []), .int .i64 e]
theorem Od {s : Ai} {w : World} (hf : s.Fits) : Aa Tryz.prog 39 [s.val] w (Rets fun v w' => v = Pf (Go.Sx.stepT s) ∧ Grew w w') := by
 refine sx39.ok ?_
 unfold sx39
 intro w1 hg1
 refine (Oc hf.1).use fun v w2 ⟨hv, hg2⟩ => ?_
 subst hv
 refine ⟨_, rfl, _, B4 (b := []), fun h0 => ?_, fun h0 => ?_⟩
 ·have h0 : Ky (Bh s.kind) = [] := by simpa using h0
  have hw : Bh s.kind = none := by
   cases hh : Bh s.kind with
   | none => rfl
   | some x =>
    obtain ⟨a, b⟩ := x
    rw [hh] at h0
    obtain ⟨hm, -⟩ := C9 hh
    have hne : ∀ x ∈ Cr, x.1 ≠ [] := by decide
    exact absurd h0 (hne _ hm)
  refine ⟨_, rfl, ?_, hg1.trans hg2⟩
  unfold Go.Sx.stepT; rw [hw]; rfl
 have h0 : Ky (Bh s.kind) ≠ [] := by simpa using h0
 obtain ⟨⟨word, asks⟩, hw⟩ : ∃ x, Bh s.kind = some x := by
  cases hh : Bh s.kind with
  | none => rw [hh] at h0; exact absurd rfl h0
  | some x => exact ⟨x, rfl⟩
 obtain ⟨hm, k1, k2, hwo⟩ := C9 hw
 have hl73 : ∀ x ∈ Cr, x.1.length ≤ 7 ∧ x.2.length ≤ 3 := by decide
 obtain ⟨lw, la⟩ := hl73 _ hm
 simp only at lw la
 have hqa : ∀ c ∈ asks, c = 110 ∨ c = 107 ∨ c = 117 ∨ c = 118 := by
  have : ∀ x ∈ Cr, ∀ c ∈ x.2, c = 110 ∨ c = 107 ∨ c = 117 ∨ c = 118 := by decide
  exact this _ hm
 rw [hw]
 refine (Oz (s := word)).use fun v w7 ⟨hv, hw7⟩ => ?_
 subst hv
 rw [hwo]
 have hst : Go.Sx.stepT s = if (emit asks s).2.bare then .ok (word ++ (emit asks s).1) else .error 1 := by unfold Go.Sx.stepT; rw [hw]
 refine ⟨_, _, rfl, fun t i kd nd nn ky vl w' => ∃ (j : Nat) (cur : Ai) (pre : L8), i = j ∧ t = bs (word ++ pre) ∧ kd = cur.kind ∧ nd = cur.node ∧ nn = cur.n ∧ ky = cur.r.key ∧ vl = cur.r.val ∧ cur.Fits ∧ j ≤ asks.length ∧ pre.length ≤ 21 * j ∧ emit asks s = (pre ++ (emit (asks.drop j) cur).1, (emit (asks.drop j) cur).2) ∧ Grew w w', fun _ i _ _ _ _ _ _ => asks.length - i.toNat,
  ⟨0, s, [], rfl, by simp [Ky], rfl, rfl, rfl, rfl, rfl, hf, Nat.zero_le _, by simp, by simp, by rw [hw7]; exact hg1.trans hg2⟩, ?_⟩
 rintro t i kd nd nn ky vl w20 ⟨j, cur, pre, rfl, rfl, rfl, rfl, rfl, rfl, rfl, hcf, hj, hpl, hem, hg20⟩
 rw [Ax]
 refine ⟨fun hlt => ?_, fun hge => ?_⟩
 ·simp only [decide_eq_true_eq] at hlt
  have hjl : j < asks.length := by omega
  have hqs := hqa asks[j] (List.getElem_mem _)
  rw [Ch (by omega)]
  have hlen : (word ++ pre).length ≤ 100 := by simp only [List.length_append]; omega
  obtain ⟨ef, eln⟩ := Fu (c := asks[j]) hcf
  have hemj : emit (asks.drop j) cur = ((Bd asks[j] cur).1 ++ (emit (asks.drop (j + 1)) (Bd asks[j] cur).2).1, (emit (asks.drop (j + 1)) (Bd asks[j] cur).2).2) := by
   rw [List.drop_eq_getElem_cons hjl]; rfl
  have hm : asks.length - (((j + 1 : Nat) : Int)).toNat < asks.length - ((j : Nat) : Int).toNat := by omega
  have fin : ∀ (t : L8) (w' : World), (Bd asks[j] cur).1 = 32 :: t → Grew w20 w' → ∃ (j' : Nat) (c2 : Ai) (p2 : L8), ((j + 1 : Nat) : Int) = j' ∧ bs (word ++ pre ++ [32] ++ t) = bs (word ++ p2) ∧ (Bd asks[j] cur).2.kind = c2.kind ∧ (Bd asks[j] cur).2.node = c2.node ∧ (Bd asks[j] cur).2.n = c2.n ∧ (Bd asks[j] cur).2.r.key = c2.r.key ∧ (Bd asks[j] cur).2.r.val = c2.r.val ∧ c2.Fits ∧ j' ≤ asks.length ∧ p2.length ≤ 21 * j' ∧ emit asks s = (p2 ++ (emit (asks.drop j') c2).1, (emit (asks.drop j') c2).2) ∧ Grew w w' := fun t w' ht hg =>
   ⟨j + 1, _, pre ++ (Bd asks[j] cur).1, rfl, by rw [ht]; simp, rfl, rfl, rfl, rfl, rfl, ef, hjl, by simp only [List.length_append]; omega, by rw [hem, hemj]; simp, hg20.trans hg⟩
  obtain ⟨f1, f2, f3, f4, f5⟩ := hcf
  refine ⟨asks[j], ⟨by omega, by rw [Int.toNat_natCast, Le, List.getElem?_eq_getElem hjl]⟩, fun h110 => ⟨_, Bc (b := [32]) (by simp only [List.length_singleton]; omega), (Cn f2).use fun v w23 ⟨hv, hg23⟩ => ?_⟩, fun n110 => ⟨fun h107 => ⟨_, Bc (b := [32]) (by simp only [List.length_singleton]; omega), (Cn f3).use fun v w23 ⟨hv, hg23⟩ => ?_⟩, fun n107 => ⟨fun h117 => ⟨_, Bc (b := [32]) (by simp only [List.length_singleton]; omega), ?_⟩, fun n117 => ⟨fun h118 => ⟨_, Bc (b := [32]) (by simp only [List.length_singleton]; omega), (Ma f5).use fun v w23 ⟨hv, hw23⟩ => ?_⟩, fun n118 => ?_⟩⟩⟩⟩
  ·have hq : asks[j] = 110 := by rcases hqs with h | h | h | h <;> rw [h] at h110 ⊢ <;> revert h110 <;> decide
   subst hv
   have := Bf f2
   have hi := fin (Lib.itoa cur.node) w23 (by rw [hq]; rfl) hg23
   rw [hq] at hi
   exact ⟨_, rfl, _, Bc (by simp only [List.length_append, List.length_singleton] at hlen ⊢; omega), hi, hm⟩
  ·have hq : asks[j] = 107 := by rcases hqs with h | h | h | h <;> rw [h] at h107 n110 ⊢ <;> revert h107 n110 <;> decide
   subst hv
   have := Bf f3
   have hi := fin (Lib.itoa cur.n) w23 (by rw [hq]; rfl) hg23
   rw [hq] at hi
   exact ⟨_, rfl, _, Bc (by simp only [List.length_append, List.length_singleton] at hlen ⊢; omega), hi, hm⟩
  ·have hq : asks[j] = 117 := by rcases hqs with h | h | h | h <;> rw [h] at h117 ⊢ <;> revert h117 <;> decide
   have hkn : cur.r.key = ((cur.r.key.toNat : Nat) : Int) := by have := f4.1; omega
   have hk64 : cur.r.key.toNat < 18446744073709551616 := by have := f4.2; simp only [u64m] at this; omega
   have := Du hk64
   have hc : Aa Tryz.prog 55 [.int .i64 1, .agg #[.bool true, .int .u64 cur.r.key]] w20 (Rets fun v w' => v = .string (bs (Lib.decDigits cur.r.key.toNat)) ∧ Grew w20 w') := by
    have := Ob (n := cur.r.key.toNat) (w := w20) hk64
    rw [← hkn] at this; exact this
   refine hc.use fun v w23 ⟨hv, hg23⟩ => ?_
   subst hv
   have hi := fin (Lib.decDigits cur.r.key.toNat) w23 (by rw [hq]; rfl) hg23
   rw [hq] at hi
   exact ⟨_, rfl, _, Bc (by simp only [List.length_append, List.length_singleton] at hlen ⊢; omega), hi, hm⟩
  ·have hq : asks[j] = 118 := by rcases hqs with h | h | h | h <;> rw [h] at h118 ⊢ <;> revert h118 <;> decide
   subst hv
   have hi := fin (hexK 16 cur.r.val) w23 (by rw [hq]; rfl) (by rw [hw23]; exact Grew.refl _)
   rw [hq] at hi
   exact ⟨_, rfl, _, Bc (by simp only [List.length_append, List.length_singleton, B3] at hlen ⊢; omega), hi, hm⟩
  ·exfalso
   rcases hqs with h | h | h | h <;> rw [h] at n110 n107 n117 n118
   ·exact absurd n110 (by decide)
   ·exact absurd n107 (by decide)
   ·exact absurd n117 (by decide)
   ·exact absurd n118 (by decide)
 ·simp only [decide_eq_false_iff_not] at hge
  have hjq : j = asks.length := by omega
  have he : emit asks s = (pre, cur) := by rw [hem, List.drop_eq_nil_of_le (by omega)]; simp [emit]
  rw [he] at hst
  have bad : ¬ cur.bare → ∀ w', w' = w20 → Rets (fun v w' => v = Pf (Go.Sx.stepT s) ∧ Grew w w') (.returned (.tuple #[.string (ByteArray.mk #[]), .int .i64 1])) w' := fun hb w' hw' => by
   rw [hst, if_neg hb, hw']; exact ⟨_, rfl, rfl, hg20⟩
  refine ⟨fun hne => bad (fun hb => ?_) _ rfl, fun e1 => ⟨fun hne => bad (fun hb => ?_) _ rfl, fun e2 => ⟨fun hne => bad (fun hb => ?_) _ rfl, fun e3 => Kw.use fun v w46 ⟨hv, hw46⟩ => ?_⟩⟩⟩
  ·rw [hb.1] at hne; cases hne
  ·rw [hb.2.1] at hne; cases hne
  ·rw [hb.2.2.1] at hne; cases hne
  subst hv
  refine ⟨_, rfl, fun hne => bad (fun hb => ?_) _ hw46, fun e4 => ?_⟩
  ·rw [hb.2.2.2] at hne; cases hne
  ·have hbare : cur.bare := ⟨by simpa using e1, by simpa using e2, by simpa using e3, by simpa using e4⟩
   rw [hst, if_pos hbare, hw46]; exact ⟨_, rfl, rfl, hg20⟩
end Go.Proofs.YtbmmaibbiahkkaaGreatDoor
