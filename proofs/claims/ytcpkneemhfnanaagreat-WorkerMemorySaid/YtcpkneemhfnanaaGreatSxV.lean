/- Reads and writes of one row of numbers, for the sort's walks; the sort's small laws. Conditions: none. -/
import Derived.Test.YtcpkneemhfnanaaGreatSxO
import Derived.Sort.AssemblyPlain
namespace Go.Sx
set_option linter.unusedSimpArgs false
set_option linter.unusedVariables false
section
variable {P : Program}

/-- a row of numbers that may be written -/
abbrev Ar (k : IntKind) (e : TypeId) (B : Nat) (a : Option Addr) (n c : Nat) (w : World) (d : Array Int) : Prop := Own w B e (Enc.int k) a n c d.toList

theorem Ar.rd {k : IntKind} {e : TypeId} {B : Nat} {a : Option Addr} {n c : Nat} {w : World} {d : Array Int} {K : Int → Addr → Prop} {j : Int} (h : Ar k e B a n c w d) {i : Nat} (hj : j = i) (hi : i < d.size) (hK : ∀ p, K d[i]! p) :
    withSome a (fun p => (0 ≤ j ∧ j < (n : Nat)) ∧ ∃ x : Int, w.cell? (Addr.add p (j.toNat * 1)) = some (.int k x) ∧ K x p) := by
  subst hj
  have hn : n = d.size := by have := h.len; simpa using this
  obtain ⟨p, x, rfl, hx, hc⟩ := h.reads.at0 (k := i) (by omega)
  have hx' : x = d[i]! := by
    rw [getElem!_pos d i hi]
    simp at hx
    rw [Array.getElem?_eq_getElem hi] at hx
    exact (Option.some.inj hx).symm
  subst hx'
  exact ⟨by omega, _, by simpa [Enc.int, CellsAt, Addr.add_zero'] using hc, hK p⟩

theorem Ar.st {k : IntKind} {e : TypeId} {B : Nat} {a : Option Addr} {n c : Nat} {w : World} {d : Array Int} {K : World → Addr → Prop} {j : Int} (h : Ar k e B a n c w d) {i : Nat} (hj : j = i) (hi : i < d.size) {x : Int} (hK : ∀ p w', Ar k e B a n c w' (d.setIfInBounds i x) → Upd (Blk a) w w' → K w' p) :
    withSome a (fun p => (0 ≤ j ∧ j < (n : Nat)) ∧ RoomAt w (Addr.add p (j.toNat * 1)) 0 [.int k x] ∧ ∀ w', w' = setCells w (Addr.add p (j.toNat * 1)) 0 [.int k x] → K w' p) := by
  subst hj
  have hn : n = d.size := by have := h.len; simpa using this
  obtain ⟨p, hp, h1, h2, h3⟩ := h.set (i := i) (by simpa using hi) x
  subst hp
  refine ⟨by omega, by simpa [Enc.int] using h1, ?_⟩
  rintro w' rfl
  refine hK p _ ?_ (by simpa [Enc.int] using h3)
  show Own _ B e (Enc.int k) (some p) n c (d.setIfInBounds i x).toList
  simpa [Enc.int] using h2

theorem Ar.grew {k : IntKind} {e : TypeId} {B : Nat} {a : Option Addr} {n c : Nat} {w w' : World} {d : Array Int} (h : Ar k e B a n c w d) (hg : Grew w w') : Ar k e B a n c w' d := Own.grew h hg
theorem Ar.size {k : IntKind} {e : TypeId} {B : Nat} {a : Option Addr} {n c : Nat} {w : World} {d : Array Int} (h : Ar k e B a n c w d) : n = d.size := by have := h.len; simpa using this

theorem sameB_refl (w : World) : ∀ T : List Addr, SameB w w T
  | [] => trivial
  | _ :: r => ⟨rfl, sameB_refl w r⟩
theorem swp_size' (d : Array Int) (i j : Nat) : (Go.Sort.swp d i j).size = d.size := by simp [Sort.swp]
open Go.Sort
theorem insInner_stop {a j : Nat} {d : Array Int} (h : j ≤ a) : insInner ltInt a j d = d := by
  cases j with
  | zero => rfl
  | succ j => rw [insInner, if_neg (by simp; omega)]
theorem insInner_no {a j : Nat} {d : Array Int} (h : ltInt d[j]! d[j - 1]! = false) : insInner ltInt a j d = d := by
  cases j with
  | zero => rfl
  | succ j => rw [insInner, if_neg (by simp only [Nat.add_sub_cancel] at h; rw [h]; simp)]
theorem insInner_yes {a j : Nat} {d : Array Int} (ha : a < j) (h : ltInt d[j]! d[j - 1]! = true) : insInner ltInt a j d = insInner ltInt a (j - 1) (swp d j (j - 1)) := by
  cases j with
  | zero => omega
  | succ j => simp only [Nat.add_sub_cancel] at h ⊢; rw [insInner, if_pos (by rw [h]; simp; omega)]
theorem insOuter_go {a b i : Nat} {d : Array Int} (h : i < b) : insOuter ltInt a b i d = insOuter ltInt a b (i + 1) (insInner ltInt a i d) := by rw [insOuter, if_pos h]
theorem insOuter_end {a b i : Nat} {d : Array Int} (h : ¬ i < b) : insOuter ltInt a b i d = d := by rw [insOuter, if_neg h]

/-- the child that is gone down to -/
def child (hi first root : Nat) (d : Array Int) : Nat := if 2 * root + 2 < hi ∧ ltInt d[first + (2 * root + 1)]! d[first + (2 * root + 2)]! = true then 2 * root + 2 else 2 * root + 1
theorem child_lt {hi first root : Nat} {d : Array Int} (h : ¬ 2 * root + 1 ≥ hi) : child hi first root d < hi ∧ root < child hi first root d := by
  unfold child; split <;> omega
theorem siftDown_end {hi first root : Nat} {d : Array Int} (h : 2 * root + 1 ≥ hi) : siftDown ltInt hi first root d = d := by rw [siftDown, dif_pos h]
theorem siftDown_go {hi first root : Nat} {d : Array Int} (h : ¬ 2 * root + 1 ≥ hi) : siftDown ltInt hi first root d = if ltInt d[first + root]! d[first + child hi first root d]! = true then siftDown ltInt hi first (child hi first root d) (swp d (first + root) (first + child hi first root d)) else d := by
  rw [siftDown, dif_neg h]
  unfold child
  by_cases hc : 2 * root + 2 < hi ∧ ltInt d[first + (2 * root + 1)]! d[first + (2 * root + 2)]! = true
  · rw [if_pos (by simp only [Bool.and_eq_true, decide_eq_true_eq]; exact hc), if_pos hc, dif_pos hc.1]
    cases hl : ltInt d[first + root]! d[first + (2 * root + 2)]! <;> simp
  · rw [if_neg (by simp only [Bool.and_eq_true, decide_eq_true_eq]; exact hc), if_neg hc]
    cases hl : ltInt d[first + root]! d[first + (2 * root + 1)]! <;> simp
theorem siftDown_size' (hi first : Nat) : ∀ (n root : Nat) (d : Array Int), hi - root ≤ n → (siftDown ltInt hi first root d).size = d.size
  | n, root, d, hn => by
    by_cases h : 2 * root + 1 ≥ hi
    · rw [siftDown_end h]
    · have hc := child_lt (first := first) (d := d) h
      rw [siftDown_go h]
      split
      · cases n with
        | zero => omega
        | succ n => rw [siftDown_size' hi first n _ _ (by omega), swp_size']
      · rfl
theorem scanUp_go {p : Int → Bool} {d : Array Int} {j i : Nat} (h : i ≤ j) (hp : p d[i]! = true) : scanUp p d j i = scanUp p d j (i + 1) := by
  rw [scanUp, if_pos (by simp [h, hp])]
theorem scanUp_end {p : Int → Bool} {d : Array Int} {j i : Nat} (h : i ≤ j → p d[i]! = false) : scanUp p d j i = i := by
  rw [scanUp, if_neg]
  intro h'
  simp only [Bool.and_eq_true, decide_eq_true_eq] at h'
  rw [h h'.1] at h'; exact absurd h'.2 (by simp)
theorem scanDown_go {p : Int → Bool} {d : Array Int} {i j : Nat} (h0 : 0 < j) (h : i ≤ j) (hp : p d[j]! = true) : scanDown p d i j = scanDown p d i (j - 1) := by
  cases j with
  | zero => omega
  | succ j => rw [scanDown, if_pos (by simp [h, hp])]; rfl
theorem scanDown_end {p : Int → Bool} {d : Array Int} {i j : Nat} (h : i ≤ j → p d[j]! = false) : scanDown p d i j = j := by
  cases j with
  | zero => rfl
  | succ j =>
    rw [scanDown, if_neg]
    intro h'
    simp only [Bool.and_eq_true, decide_eq_true_eq] at h'
    rw [h h'.1] at h'; exact absurd h'.2 (by simp)

/-! ### how many bits -/
def LenP (x : Int) (w : World) (v : Value) (w' : World) : Prop := ∃ m : Nat, v = .int .i64 m ∧ m ≤ 64 ∧ (0 < x → (2 : Int) ^ m ≤ 2 * x) ∧ w' = w
/-- a table of how many bits a byte has -/
def tabOk (A : Array UInt8) : Bool := (List.range 256).all fun y => match A[y]? with
  | some b => decide (b.toNat ≤ 8) && (Nat.beq y 0 || decide (2 ^ b.toNat ≤ 2 * y))
  | none => false
theorem len_tab {A : Array UInt8} (hA : tabOk A = true) {E K x : Int} {w : World} {k : Nat} (h0 : 0 ≤ E) (h1 : E < 256) (hK : K = k) (hk : k ≤ 56) (hx : 0 < x → 0 < E ∧ E * 2 ^ k ≤ x) :
    ∃ b : UInt8, (0 ≤ IntKind.u8.wrap E ∧ A[(IntKind.u8.wrap E).toNat]? = some b) ∧ ∀ n7 : Int, n7 = IntKind.i64.wrap (b.toNat : Int) → ∀ n8 : Int, n8 = IntKind.i64.wrap (K + n7) → Rets (LenP x w) (.returned (.int .i64 n8)) w := by
  have hw : IntKind.u8.wrap E = E := by rw [IntKind.wrap_u8']; omega
  rw [hw]
  have hall := List.all_eq_true.1 hA E.toNat (by simp; omega)
  cases hb : A[E.toNat]? with
  | none => rw [hb] at hall; cases hall
  | some b =>
    rw [hb] at hall
    simp only [Bool.and_eq_true, Bool.or_eq_true, decide_eq_true_eq] at hall
    refine ⟨b, ⟨h0, rfl⟩, ?_⟩
    rintro n7 rfl n8 rfl
    have hw1 : IntKind.i64.wrap (b.toNat : Int) = (b.toNat : Int) := by rw [IntKind.wrap_i64]; omega
    have hw2 : IntKind.i64.wrap (K + (b.toNat : Int)) = ((b.toNat + k : Nat) : Int) := by rw [hK, IntKind.wrap_i64]; omega
    rw [hw1, hw2]
    refine ⟨_, rfl, b.toNat + k, rfl, by omega, fun hx0 => ?_, rfl⟩
    obtain ⟨hE, hEx⟩ := hx hx0
    have h2 : 2 ^ b.toNat ≤ 2 * E.toNat := by
      rcases hall.2 with h | h
      · have := Nat.eq_of_beq_eq_true h; omega
      · exact h
    have h3 : (2 : Int) ^ b.toNat ≤ 2 * E := by
      have : ((2 ^ b.toNat : Nat) : Int) ≤ ((2 * E.toNat : Nat) : Int) := by exact_mod_cast h2
      push_cast at this
      rw [Int.toNat_of_nonneg h0] at this
      exact this
    rw [Int.pow_add]
    have hp : (0 : Int) < 2 ^ k := Int.pow_pos (by decide)
    have h4 : (2 : Int) ^ b.toNat * 2 ^ k ≤ 2 * E * 2 ^ k := Int.mul_le_mul_of_nonneg_right h3 (Int.le_of_lt hp)
    rw [Int.mul_assoc] at h4
    omega
theorem fdiv_pow {x : Int} (h : 0 ≤ x) (k : Nat) (j : Int) (hj : j = k) (hk : k ≤ 64) : Int.fdiv x (2 ^ (min j.toNat (IntKind.bits .u64))) = x / 2 ^ k := by
  subst hj
  have hm : min ((k : Int)).toNat (IntKind.bits .u64) = k := by simp [IntKind.bits]; omega
  rw [hm, Int.fdiv_eq_ediv_of_nonneg _ (Int.le_of_lt (Int.pow_pos (by decide)))]
theorem xor_range (x y : Int) : 0 ≤ Go.bits .xor .u64 x y ∧ Go.bits .xor .u64 x y < 18446744073709551616 := by
  show 0 ≤ IntKind.u64.wrap _ ∧ IntKind.u64.wrap _ < _
  rw [IntKind.wrap_u64]; omega
/-- a list in order -/
def sortL (l : List Int) : List Int := l.mergeSort fun x y => decide (x ≤ y)
theorem sortL_unique {l : List Int} {d : Array Int} (hp : PermIn 0 l.length l.toArray d) (hs : SortedIn ltInt 0 l.length d) : d.toList = sortL l := by
  have h := sorted_unique_holds (lt := ltInt) swo_ltInt (fun x y h1 h2 => by simp [ltInt] at h1 h2; omega) l.toArray d (by simpa using hp) (by simpa using hs)
  rw [h]
  unfold sortL
  simp only [ltInt]
  congr 1
  funext x y
  by_cases hxy : x ≤ y
  · simp [hxy]
  · simp [hxy]; omega
end
end Go.Sx
