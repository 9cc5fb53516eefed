/- Numbers and keys as the library reads them. Conditions: none. -/
import Derived.Test.YtbmmaibbiahkkaaGreatDoorSxSf
import Derived.Test.YtbmmaibbiahkkaaGreatDoorSxSc
namespace Go.Sx
open Go.Lib
def Ei {α : Type} : NumEnd α → Option α
 | .ok v => some v
 | _ => none
theorem Jp : ∀ (l : L8) (a : Nat), (∀ c ∈ l, isDg c) → natD a l < 18446744073709551616 → parseUintM 18446744073709551615 a l = .ok (natD a l)
 | [], a, _, _ => by rw [Gi]; rfl
 | c :: r, a, hd, h => by
  have hc := hd c (by simp)
  unfold isDg at hc
  rw [Fi] at h ⊢
  have hge := Mo r (a * 10 + (c.toNat - 48))
  unfold parseUintM
  rw [if_pos hc, if_neg (by omega), if_neg (by omega)]
  exact Jp r _ (fun x hx => hd x (by simp [hx])) h
theorem F2 {n : Nat} (h : n < 18446744073709551616) : parseUintB 64 (decDigits n) = .ok n := by
 unfold parseUintB
 rw [if_neg (Lv n)]
 have := Jp (decDigits n) 0 (Ib n) (by rw [Ic]; exact h)
 rw [Ic] at this; exact this
theorem Jq {s : L8} {n : Nat} (h : parseUintB 64 s = .ok n) : n < 18446744073709551616 := by
 have := parseUintB_le h; omega
theorem Oh (s : L8) : keyL s = (Ei (parseUintB 64 s)).bind fun n => if decDigits n = s then some n else none := by
 cases hk : keyL s with
 | some n =>
  obtain ⟨rfl, h⟩ := E0.1 hk
  rw [F2 h]; simp [Ei]
 | none =>
  cases hp : parseUintB 64 s with
  | ok n =>
   simp only [Ei, Option.bind_some]
   split
   ·rename_i e; rw [E0.2 ⟨e.symm, Jq hp⟩] at hk; cases hk
   ·rfl
  | «syntax» => rfl
  | range => rfl
theorem Gl {s : L8} {n : Int} (h : parseIntB 64 s = .ok n) : -9223372036854775808 ≤ n ∧ n ≤ 9223372036854775807 := by
 unfold parseIntB at h
 split at h
 ·cases h
 ·simp only at h
  split at h
  ·cases h
  ·cases h
  ·split at h
   ·cases h
   ·split at h
    ·cases h
    ·rename_i u _ h1 h2
     simp only [NumEnd.ok.injEq] at h
     simp only [show (2 : Nat) ^ (64 - 1) = 9223372036854775808 from by decide] at h1 h2
     split at h
     ·rename_i hc
      have : ¬ 9223372036854775808 < u := fun e => h2 ⟨hc, e⟩
      omega
     ·rename_i hc
      have : ¬ 9223372036854775808 ≤ u := fun e => h1 ⟨hc, e⟩
      omega
theorem K7 {v : Int} (h : -9223372036854775808 ≤ v ∧ v ≤ 9223372036854775807) : parseIntB 64 (itoa v) = .ok v := by
 by_cases hv : v < 0
 ·rw [itoa_neg hv]
  unfold parseIntB
  have e45 : (45 : UInt8).toNat = 45 := by decide
  simp only [e45]
  rw [if_pos (Or.inr trivial), F2 (by omega)]
  simp only [show (2 : Nat) ^ (64 - 1) = 9223372036854775808 from by decide]
  rw [if_neg (by simp), if_neg (by omega), if_pos trivial]
  congr 1; omega
 ·rw [E1 hv]
  obtain ⟨c, r, e⟩ : ∃ c r, decDigits v.toNat = c :: r := by
   cases h : decDigits v.toNat with
   | nil => exact (Lv _ h).elim
   | cons c r => exact ⟨c, r, rfl⟩
  have hc := Ib v.toNat c (by rw [e]; simp)
  unfold isDg at hc
  have hp := F2 (n := v.toNat) (by omega)
  rw [e] at hp ⊢
  unfold parseIntB
  simp only
  rw [if_neg (by omega), hp]
  simp only [show (2 : Nat) ^ (64 - 1) = 9223372036854775808 from by decide]
  rw [if_neg (by omega), if_neg (by omega), if_neg (by omega)]
  congr 1; omega
theorem Oi (s : L8) : numL s = (Ei (parseIntB 64 s)).bind fun n => if itoa n = s then some n else none := by
 cases hk : numL s with
 | some n =>
  obtain ⟨rfl, h⟩ := If.1 hk
  rw [K7 h]; simp [Ei]
 | none =>
  cases hp : parseIntB 64 s with
  | ok n =>
   simp only [Ei, Option.bind_some]
   split
   ·rename_i e; rw [If.2 ⟨e.symm, Gl hp⟩] at hk; cases hk
   ·rfl
  | «syntax» => rfl
  | range => rfl
@[reducible] def Af.val (s : Af) : Value := .agg #[.int .i64 s.kind, .int .i64 s.node, .int .i64 s.n, .int .u64 s.r.key, .float .f64 s.r.val]
theorem J6 (a : L8) (s : Af) : setA 110 a s = (numL a).map fun v => { s with node := v } := by unfold setA; rw [if_pos rfl]
theorem J7 (a : L8) (s : Af) : setA 107 a s = (numL a).map fun v => { s with n := v } := by unfold setA; rw [if_neg (by decide), if_pos rfl]
theorem J8 (a : L8) (s : Af) : setA 117 a s = (keyL a).map fun v => { s with r := { s.r with key := (v : Int) } } := by
 unfold setA; rw [if_neg (by decide), if_neg (by decide), if_pos rfl]; cases keyL a <;> rfl
theorem J9 (a : L8) (s : Af) : setA 118 a s = (fltL a).map fun v => { s with r := { s.r with val := v } } := by unfold setA; rw [if_neg (by decide), if_neg (by decide), if_neg (by decide)]
theorem Ka : ∀ (k n : Nat), n < 10 ^ (k + 1) → (decDigits n).length ≤ k + 1
 | 0, n, h => by rw [Dv (by simpa using h)]; simp
 | k + 1, n, h => by
  by_cases h9 : n < 10
  ·rw [Dv h9]; simp
  ·rw [Hk h9]
   rw [Nat.pow_succ] at h
   have := Ka k (n / 10) (by omega)
   simp only [List.length_append, List.length_singleton]; omega
theorem Jr {n : Nat} (h : n < 18446744073709551616) : (decDigits n).length ≤ 20 := Ka 19 n (Nat.lt_of_lt_of_le h (by decide))
theorem Ck {v : Int} (h : -9223372036854775808 ≤ v ∧ v < 9223372036854775808) : (itoa v).length ≤ 20 := by
 by_cases hv : v < 0
 ·rw [itoa_neg hv]
  have := Ka 18 v.natAbs (Nat.lt_of_lt_of_le (m := 9223372036854775809) (by omega) (by decide))
  simp only [List.length_cons]; omega
 ·rw [E1 hv]; exact Jr (by omega)
def opt {α : Type} (e : Int) : Option α → Except Int α
 | some a => .ok a
 | none => .error e
def OrF {α : Type} (t : TypeId) (o : Except Int α) (Q : α → Value → World → Prop) (F : World → Prop) (e : Ending) (w' : World) : Prop := match o with
 | .ok a => ∃ v, e = .returned v ∧ Q a v w'
 | .error c => e = .panicked (C8 (.iface t (.agg #[.int .i64 c]))) ∧ F w'
variable {P : Program}
theorem Aa.useF {α : Type} {t : TypeId} {f : FuncId} {args : List Value} {w : World} {o : Except Int α} {Q : α → Value → World → Prop} {F : World → Prop} {R : Ending → World → Prop} {k : Value → World → Prop} (h : Aa P f args w (OrF t o Q F))
  (hk : ∀ a v w', o = .ok a → Q a v w' → k v w') (he : ∀ c w', o = .error c → F w' → R (.panicked (C8 (.iface t (.agg #[.int .i64 c])))) w') : Aa P f args w (RetR R k) :=
 h.mono fun e w' h => by
  cases ho : o with
  | ok a => rw [ho] at h; obtain ⟨v, rfl, hq⟩ := h; exact hk a v w' ho hq
  | error c => rw [ho] at h; obtain ⟨rfl, hf⟩ := h; exact he c w' ho hf
end Go.Sx
