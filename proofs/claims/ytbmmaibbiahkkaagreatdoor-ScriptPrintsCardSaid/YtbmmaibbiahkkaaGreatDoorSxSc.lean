/- Texts cut up by the library: what its answers are in lists. Conditions: none. -/
import Derived.Test.YtbmmaibbiahkkaaGreatDoorSxSd
import Derived.Test.YtbmmaibbiahkkaaGreatDoorSxSb
import Derived.Lib.Split
import Derived.Lib.SplitLaws
import Derived.Lib.SlTrimSet
namespace Go.Sx
open Go.Lib
variable {P : Program}
def Enc.text : Enc L8 := ⟨1, fun l => [.string (bs l)], fun _ => rfl, by decide, fun _ v h => by simp at h; subst h; rfl⟩
theorem Aa.of_alloc {f : FuncId} {args : List Value} {w : World} {o : Obj} {V : Nat → Value} (hE : Enters P f) (h : ∀ w₀, Af w w₀ → Calls P f args.toArray w₀ fun e w' => e = .returned (V w₀.heap.size) ∧ w' = w₀.alloc o) :
  Aa P f args w (Rets fun v w' => ∃ b, v = V b ∧ An w w' b o) :=
 .mk (.inl ⟨hE, fun w₀ hw => (h w₀ hw).mono fun e w₀' ⟨he, hw'⟩ => ⟨w.alloc o, hw' ▸ hw.alloc o, hw' ▸ Kept.alloc hw o o, _, he, w.heap.size, by rw [hw.size], An.mk' w o⟩⟩)
theorem Nh (s : L8) (c : UInt8) : indexB (bs s) (bs [c]) = indexByte s c := by
 show index _ _ = _
 rw [A8, A8, index_one]
theorem Jk : ∀ {s : L8} {c : UInt8}, c ∈ s → ∃ a b, s = a ++ c :: b ∧ c ∉ a ∧ indexByte s c = a.length
 | x :: r, c, h => by
  by_cases hx : x = c
  ·subst hx; exact ⟨[], r, rfl, by simp, by unfold indexByte; simp⟩
  ·have hr : c ∈ r := by
    rcases List.mem_cons.1 h with e | e
    ·exact (hx e.symm).elim
    ·exact e
   obtain ⟨a, b, e, hn, hi⟩ := Jk hr
   refine ⟨x :: a, b, by rw [e]; rfl, by simp only [List.mem_cons, not_or]; exact ⟨fun e => hx e.symm, hn⟩, ?_⟩
   unfold indexByte
   rw [if_neg (by simpa using hx), hi, if_neg (by simp)]; simp
theorem Kf : ∀ {s : L8} {c : UInt8}, c ∉ s → indexByte s c = -1
 | [], _, _ => rfl
 | x :: r, c, h => by
  simp only [List.mem_cons, not_or] at h
  unfold indexByte
  rw [if_neg (by simpa using fun e => h.1 e.symm), Kf h.2]; rfl
theorem Lg (s : L8) (c : UInt8) : countB (bs s) (bs [c]) = s.count c := by
 show count _ _ = _
 rw [A8, A8, count_one]
theorem I3 (c : UInt8) : ∀ (k : Nat) (s : L8), s.count c = k → splitB (bs [c]) 0 k (bs s) = (Ag c s).map bs := by
 intro k
 induction k with
 | zero =>
  intro s h
  have hn : c ∉ s := List.count_eq_zero.1 h
  rw [Ew hn, splitB_zero]; rfl
 | succ k ih =>
  intro s h
  have hm : c ∈ s := by
   rcases Classical.em (c ∈ s) with h' | h'
   ·exact h'
   ·rw [List.count_eq_zero.2 h'] at h; omega
  obtain ⟨a, b, rfl, hn, hi⟩ := Jk hm
  rw [Fq b hn]
  unfold splitB
  rw [Nh, hi, if_neg (by simp), Gs, Gs, Ax, Ax]
  have e1 : ((a ++ c :: b).take ((a.length : Int).toNat + 0)).drop 0 = a := by simp
  have e2 : ((a ++ c :: b).take (a ++ c :: b).length).drop ((a.length : Int).toNat + [c].length) = b := by
   rw [List.take_length]; simp
  rw [e1, e2, ih b (by rw [List.count_append, List.count_cons_self, List.count_eq_zero.2 hn] at h; omega)]; rfl
theorem Cg (c : UInt8) : ∀ s : L8, (Ag c s).length = s.count c + 1 := fun s => by
 have h := splitB_all (bs [c]) (by rw [Ax]; simp) 0 (s.count c) (bs s) (Lg s c)
 rw [I3 c _ s rfl] at h; simpa using h
theorem Gu (c : UInt8) : ∀ (l : L8), ∀ a ∈ Ag c l, a.length ≤ l.length
 | [], a, h => by simp [Ag] at h; subst h; simp
 | x :: r, a, h => by
  have ih := Gu c r
  unfold Ag at h
  split at h
  ·rcases List.mem_cons.1 h with rfl | h
   ·simp
   ·have := ih a h; simp only [List.length_cons]; omega
  ·split at h
   ·simp at h; subst h; simp
   ·rename_i b t hs
    rw [hs] at ih
    rcases List.mem_cons.1 h with rfl | h
    ·have := ih b (by simp); simp only [List.length_cons]; omega
    ·have := ih a (by simp [h]); simp only [List.length_cons]; omega
theorem Ni {p : UInt8 → Bool} : ∀ l : L8, (∀ x ∈ l.dropWhile p, p x = true) ↔ ∀ x ∈ l, p x = true
 | [] => by simp
 | a :: l => by
  cases h : p a with
  | true => rw [List.dropWhile_cons_of_pos h, Ni l]; simp [h]
  | false => rw [List.dropWhile_cons_of_neg (by simp [h])]
theorem Nj {p : UInt8 → Bool} : ∀ l : L8, l.dropWhile p = [] ↔ ∀ x ∈ l, p x = true
 | [] => by simp
 | a :: l => by
  cases h : p a with
  | true => rw [List.dropWhile_cons_of_pos h, Nj l]; simp [h]
  | false => rw [List.dropWhile_cons_of_neg (by simp [h])]; simp [h]
theorem Kg (l cs : L8) : trimS l cs = [] ↔ ∀ x ∈ l, x ∈ cs := by
 unfold trimS trimLeftS trimRightS
 rw [Nj]
 have := Ni (p := (cs.contains ·)) l.reverse
 simp only [List.mem_reverse, List.contains_iff_mem] at this ⊢
 exact this
def hexD : L8 := [48, 49, 50, 51, 52, 53, 54, 55, 56, 57, 97, 98, 99, 100, 101, 102]
theorem Kh (c : UInt8) : c ∈ hexD ↔ (hexV c).isSome = true := by
 have : ∀ n : Fin 256, (UInt8.ofNat n.val ∈ hexD) ↔ (hexV (UInt8.ofNat n.val)).isSome = true := by decide +kernel
 have h := this ⟨c.toNat, c.toNat_lt⟩
 simpa using h
end Go.Sx
namespace Go.Sx
set_option linter.unusedSimpArgs false
open Go.Lib
def Ai.Fits (s : Ai) : Prop := (-9223372036854775808 ≤ s.kind ∧ s.kind < 9223372036854775808) ∧ (-9223372036854775808 ≤ s.node ∧ s.node < 9223372036854775808) ∧ (-9223372036854775808 ≤ s.n ∧ s.n < 9223372036854775808) ∧ s.r.Fits
structure ScrP.Fits (p : ScrP) : Prop where
 nums : ∀ n ∈ [p.n0, p.n1, p.n2, p.n3, p.n4, p.n5, p.n6], -9223372036854775808 ≤ n ∧ n < 9223372036854775808
 ops : ∀ o ∈ p.ops, o.Fits
def words (w : L8) (as : List L8) : L8 := w ++ (as.map fun a => 32 :: a).flatten
theorem C9 {k : Int} {w asks : L8} (h : Bh k = some (w, asks)) : (w, asks) ∈ Cr ∧ 1 ≤ k ∧ k ≤ 11 ∧ Cf w = some (k.toNat, asks) := by
 unfold Bh at h
 split at h
 ·rename_i hk
  have hm := List.mem_of_getElem? h
  have hl : (k - 1).toNat < 11 := (List.getElem?_eq_some_iff.1 h).1
  refine ⟨hm, hk, by omega, ?_⟩
  have hk' : k = ((k - 1).toNat : Int) + 1 := by omega
  generalize (k - 1).toNat = i at h hl hk'
  subst hk'
  have : ∀ i : Fin 11, ∀ x, Cr[i.val]? = some x → Cf x.1 = some (i.val + 1, x.2) := by decide
  have := this ⟨i, hl⟩ _ h
  rw [this]; rfl
 ·cases h
theorem Ki {w asks : L8} {k : Nat} (h : Cf w = some (k, asks)) : Bh k = some (w, asks) := by
 have : ∀ (l : List (L8 × L8)) (i k : Nat), H8 w l i = some (k, asks) → i ≤ k ∧ l[k - i]? = some (w, asks) := by
  intro l
  induction l with
  | nil => intro i k h; cases h
  | cons x r ih =>
   obtain ⟨a, b⟩ := x
   intro i k h
   unfold H8 at h
   split at h
   ·rename_i hw; cases h; subst hw; simp
   ·obtain ⟨h1, h2⟩ := ih (i + 1) k h
    refine ⟨by omega, ?_⟩
    rw [show k - i = (k - (i + 1)) + 1 from by omega]; simpa using h2
 obtain ⟨h1, h2⟩ := this Cr 1 k h
 unfold Bh
 rw [if_pos (by omega), show ((k : Int) - 1).toNat = k - 1 from by omega]; exact h2
def nums (p : ScrP) : List Int := [p.n0, p.n1, p.n2, p.n3, p.n4, p.n5, p.n6]
end Go.Sx
