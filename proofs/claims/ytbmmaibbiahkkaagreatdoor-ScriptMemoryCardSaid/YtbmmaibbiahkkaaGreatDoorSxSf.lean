/- Texts cut up by the library: what its answers are in lists. Conditions: none. -/
import Derived.Test.YtbmmaibbiahkkaaGreatDoorSxSd
import Derived.Test.YtbmmaibbiahkkaaGreatDoorSxSb
import Derived.Lib.Split
import Derived.Lib.SplitLaws
import Derived.Lib.SlTrimSet
namespace Go.Sx
open Go.Lib
variable {P : Program}
def Enc.text : Enc L8 := ⟨1, fun l => [.string (bs l)], fun _ => rfl, by decide, fun _ v h => by simp at h; subst h; rfl⟩
theorem Aa.of_alloc {f : FuncId} {args : List Value} {w : World} {o : Obj} {V : Nat → Value} (hE : Enters P f) (h : ∀ w₀, Ae w w₀ → Calls P f args.toArray w₀ fun e w' => e = .returned (V w₀.heap.size) ∧ w' = w₀.alloc o) :
  Aa P f args w (Rets fun v w' => ∃ b, v = V b ∧ Ar w w' b o) :=
 .mk (.inl ⟨hE, fun w₀ hw => (h w₀ hw).mono fun e w₀' ⟨he, hw'⟩ => ⟨w.alloc o, hw' ▸ hw.alloc o, hw' ▸ Kept.alloc hw o o, _, he, w.heap.size, by rw [hw.size], Ar.mk' w o⟩⟩)
theorem Ob (s : L8) (c : UInt8) : indexB (bs s) (bs [c]) = indexByte s c := by
 show index _ _ = _
 rw [A8, A8, index_one]
theorem J5 : ∀ {s : L8} {c : UInt8}, c ∈ s → ∃ a b, s = a ++ c :: b ∧ c ∉ a ∧ indexByte s c = a.length
 | x :: r, c, h => by
  by_cases hx : x = c
  ·subst hx; exact ⟨[], r, rfl, by simp, by unfold indexByte; simp⟩
  ·have hr : c ∈ r := by
    rcases List.mem_cons.1 h with e | e
    ·exact (hx e.symm).elim
    ·exact e
   obtain ⟨a, b, e, hn, hi⟩ := J5 hr
   refine ⟨x :: a, b, by rw [e]; rfl, by simp only [List.mem_cons, not_or]; exact ⟨fun e => hx e.symm, hn⟩, ?_⟩
   unfold indexByte
   rw [if_neg (by simpa using hx), hi, if_neg (by simp)]; simp
theorem Kz : ∀ {s : L8} {c : UInt8}, c ∉ s → indexByte s c = -1
 | [], _, _ => rfl
 | x :: r, c, h => by
  simp only [List.mem_cons, not_or] at h
  unfold indexByte
  rw [if_neg (by simpa using fun e => h.1 e.symm), Kz h.2]; rfl
theorem Ly (s : L8) (c : UInt8) : countB (bs s) (bs [c]) = s.count c := by
 show count _ _ = _
 rw [A8, A8, count_one]
theorem Jj (c : UInt8) : ∀ (k : Nat) (s : L8), s.count c = k → splitB (bs [c]) 0 k (bs s) = (Ag c s).map bs := by
 intro k
 induction k with
 | zero =>
  intro s h
  have hn : c ∉ s := List.count_eq_zero.1 h
  rw [De hn, splitB_zero]; rfl
 | succ k ih =>
  intro s h
  have hm : c ∈ s := by
   rcases Classical.em (c ∈ s) with h' | h'
   ·exact h'
   ·rw [List.count_eq_zero.2 h'] at h; omega
  obtain ⟨a, b, rfl, hn, hi⟩ := J5 hm
  rw [C6 b hn]
  unfold splitB
  rw [Ob, hi, if_neg (by simp), J4, J4, A1, A1]
  have e1 : ((a ++ c :: b).take ((a.length : Int).toNat + 0)).drop 0 = a := by simp
  have e2 : ((a ++ c :: b).take (a ++ c :: b).length).drop ((a.length : Int).toNat + [c].length) = b := by
   rw [List.take_length]; simp
  rw [e1, e2, ih b (by rw [List.count_append, List.count_cons_self, List.count_eq_zero.2 hn] at h; omega)]; rfl
theorem Ce (c : UInt8) : ∀ s : L8, (Ag c s).length = s.count c + 1 := fun s => by
 have h := splitB_all (bs [c]) (by rw [A1]; simp) 0 (s.count c) (bs s) (Ly s c)
 rw [Jj c _ s rfl] at h; simpa using h
theorem G0 (c : UInt8) : ∀ (l : L8), ∀ a ∈ Ag c l, a.length ≤ l.length
 | [], a, h => by simp [Ag] at h; subst h; simp
 | x :: r, a, h => by
  have ih := G0 c r
  unfold Ag at h
  split at h
  ·rcases List.mem_cons.1 h with rfl | h
   ·simp
   ·have := ih a h; simp only [List.length_cons]; omega
  ·split at h
   ·simp at h; subst h; simp
   ·rename_i b t hs
    rw [hs] at ih
    rcases List.mem_cons.1 h with rfl | h
    ·have := ih b (by simp); simp only [List.length_cons]; omega
    ·have := ih a (by simp [h]); simp only [List.length_cons]; omega
theorem Oc {p : UInt8 → Bool} : ∀ l : L8, (∀ x ∈ l.dropWhile p, p x = true) ↔ ∀ x ∈ l, p x = true
 | [] => by simp
 | a :: l => by
  cases h : p a with
  | true => rw [List.dropWhile_cons_of_pos h, Oc l]; simp [h]
  | false => rw [List.dropWhile_cons_of_neg (by simp [h])]
theorem Od {p : UInt8 → Bool} : ∀ l : L8, l.dropWhile p = [] ↔ ∀ x ∈ l, p x = true
 | [] => by simp
 | a :: l => by
  cases h : p a with
  | true => rw [List.dropWhile_cons_of_pos h, Od l]; simp [h]
  | false => rw [List.dropWhile_cons_of_neg (by simp [h])]; simp [h]
theorem K0 (l cs : L8) : trimS l cs = [] ↔ ∀ x ∈ l, x ∈ cs := by
 unfold trimS trimLeftS trimRightS
 rw [Od]
 have := Oc (p := (cs.contains ·)) l.reverse
 simp only [List.mem_reverse, List.contains_iff_mem] at this ⊢
 exact this
def hexD : L8 := [48, 49, 50, 51, 52, 53, 54, 55, 56, 57, 97, 98, 99, 100, 101, 102]
theorem K1 (c : UInt8) : c ∈ hexD ↔ (hexV c).isSome = true := by
 have : ∀ n : Fin 256, (UInt8.ofNat n.val ∈ hexD) ↔ (hexV (UInt8.ofNat n.val)).isSome = true := by decide +kernel
 have h := this ⟨c.toNat, c.toNat_lt⟩
 simpa using h
end Go.Sx
