/- Numbers and words as bytes, in plain lists. Conditions: none. -/
import Derived.Test.YtoljpkdokpinhaaSxM
namespace Go.Sx
set_option linter.unusedSimpArgs false
set_option linter.unusedVariables false

def u64m : Int := 18446744073709551616
/-- a number's bytes -/
def putB (x : Int) : List Int := if x < 128 then [x] else (x % 128 + 128) :: putB (x / 128)
termination_by x.toNat
decreasing_by omega

theorem putB_lt {x : Int} (h : x < 128) : putB x = [x] := by rw [putB, if_pos h]
theorem putB_ge {x : Int} (h : ¬ x < 128) : putB x = (x % 128 + 128) :: putB (x / 128) := by rw [putB, if_neg h]
theorem putB_len : ∀ (k : Nat) (x : Int), x < 128 ^ k * 128 → (putB x).length ≤ k + 1
  | 0, x, h => by rw [putB_lt (by simpa using h)]; simp
  | k + 1, x, h => by
    by_cases hx : x < 128
    · rw [putB_lt hx]; simp
    · rw [putB_ge hx]
      simp only [List.length_cons]
      have := putB_len k (x / 128) (by
        apply Int.ediv_lt_of_lt_mul (by decide)
        rw [Int.pow_succ] at h; exact h)
      omega
theorem putB_len10 {x : Int} (h : x < u64m) : (putB x).length ≤ 10 := putB_len 9 x (Int.lt_of_lt_of_le h (by decide))
theorem putB_pos (x : Int) : 0 < (putB x).length := by rw [putB]; split <;> simp
theorem putB_byte : ∀ (n : Nat) (x : Int), x.toNat ≤ n → 0 ≤ x → ∀ c ∈ putB x, 0 ≤ c ∧ c < 256
  | n, x, hn, h0, c, hc => by
    by_cases hx : x < 128
    · rw [putB_lt hx] at hc; simp at hc; omega
    · rw [putB_ge hx] at hc
      simp only [List.mem_cons] at hc
      rcases hc with rfl | hc
      · omega
      · cases n with
        | zero => omega
        | succ n => exact putB_byte n (x / 128) (by omega) (by omega) c hc

/-- eight bytes, the lowest first -/
def wordB (x : Int) : List Int := [x % 256, x / 256 % 256, x / 65536 % 256, x / 16777216 % 256, x / 4294967296 % 256, x / 1099511627776 % 256, x / 281474976710656 % 256, x / 72057594037927936 % 256]
/-- the number of these bytes, the lowest first -/
def unwordB : List Int → Int
  | [] => 0
  | c :: r => c + 256 * unwordB r

/-- the number that a list begins with: (number, bytes taken, error) -/
def takeGo (i : Nat) (x : Int) : List Int → Int × Int × Int
  | [] => (0, 0, 3)
  | c :: r => if i = 9 ∧ 1 < c then (0, 0, 4) else if 128 ≤ c then takeGo (i + 1) (x + c % 128 * 2 ^ (7 * i)) r else if c = 0 ∧ 0 < i then (0, 0, 4) else (x + c % 128 * 2 ^ (7 * i), i + 1, 0)
def takeB (l : List Int) : Int × Int × Int := takeGo 0 0 l

theorem takeGo_nil (i : Nat) (x : Int) : takeGo i x [] = (0, 0, 3) := rfl
theorem takeGo_cons (i : Nat) (x c : Int) (r : List Int) : takeGo i x (c :: r) = if i = 9 ∧ 1 < c then (0, 0, 4) else if 128 ≤ c then takeGo (i + 1) (x + c % 128 * 2 ^ (7 * i)) r else if c = 0 ∧ 0 < i then (0, 0, 4) else (x + c % 128 * 2 ^ (7 * i), i + 1, 0) := rfl
theorem drop_cons {α : Type} {l : List α} {k : Nat} {x : α} (h : l[k]? = some x) : l.drop k = x :: l.drop (k + 1) := by
  obtain ⟨hlt, rfl⟩ := List.getElem?_eq_some_iff.1 h
  exact List.drop_eq_getElem_cons hlt
theorem drop_all {α : Type} {l : List α} {k : Nat} (h : l.length ≤ k) : l.drop k = [] := List.drop_eq_nil_of_le h
/-- bytes -/
def Bytes (l : List Int) : Prop := ∀ c ∈ l, 0 ≤ c ∧ c < 256
theorem Bytes.get {l : List Int} (h : Bytes l) {k : Nat} {x : Int} (hx : l[k]? = some x) : 0 ≤ x ∧ x < 256 := h x (List.mem_of_getElem? hx)
theorem pow7 {i : Nat} (h : i ≤ 9) : (2 : Int) ^ (7 * i) ≤ 2 ^ 63 := by exact_mod_cast Nat.pow_le_pow_right (by decide : 0 < 2) (by omega : 7 * i ≤ 63)
theorem pow7_step (i : Nat) : (2 : Int) ^ (7 * (i + 1)) = 128 * 2 ^ (7 * i) := by rw [show 7 * (i + 1) = 7 * i + 7 from by omega, Int.pow_add]; omega

def takeWordB (l : List Int) : Int × Int := if l.length < 8 then (0, 3) else (unwordB (l.take 8), 0)
theorem unwordB_snoc : ∀ (l : List Int) (c : Int), unwordB (l ++ [c]) = unwordB l + c * 2 ^ (8 * l.length)
  | [], c => by simp [unwordB]
  | x :: r, c => by
    have h := unwordB_snoc r c
    simp only [List.cons_append, unwordB, h, List.length_cons]
    have e : (2 : Int) ^ (8 * (r.length + 1)) = 256 * 2 ^ (8 * r.length) := by rw [show 8 * (r.length + 1) = 8 * r.length + 8 from by omega, Int.pow_add]; omega
    rw [e, Int.mul_add, Int.add_assoc, Int.mul_left_comm]
theorem unwordB_bound : ∀ (l : List Int), Bytes l → 0 ≤ unwordB l ∧ unwordB l < 2 ^ (8 * l.length)
  | [], _ => by simp [unwordB]
  | x :: r, h => by
    have hx := h x (by simp)
    have hr := unwordB_bound r fun c hc => h c (by simp [hc])
    have e : (2 : Int) ^ (8 * (r.length + 1)) = 256 * 2 ^ (8 * r.length) := by rw [show 8 * (r.length + 1) = 8 * r.length + 8 from by omega, Int.pow_add]; omega
    simp only [unwordB, List.length_cons]
    rw [e]; omega
theorem Bytes.take {l : List Int} (h : Bytes l) (k : Nat) : Bytes (l.take k) := fun c hc => h c (List.mem_of_mem_take hc)
theorem Bytes.drop {l : List Int} (h : Bytes l) (k : Nat) : Bytes (l.drop k) := fun c hc => h c (List.mem_of_mem_drop hc)
theorem Bytes.append {l r : List Int} (h : Bytes l) (k : Bytes r) : Bytes (l ++ r) := fun c hc => (List.mem_append.1 hc).elim (h c) (k c)
theorem take_snoc {α : Type} {l : List α} {k : Nat} {x : α} (h : l[k]? = some x) : l.take (k + 1) = l.take k ++ [x] := by
  rw [List.take_add_one, h]; rfl

/-! ### bits -/
theorem sx_or128 {x : Int} (h : 0 ≤ x) : Go.bits .or .u8 (IntKind.u8.wrap x) 128 = x % 128 + 128 := by
  rw [IntKind.wrap_u8', u8_or _ _ (by omega) (by omega) (by decide) (by decide)]
  have key : ∀ n : Fin 256, n.val ||| 128 = n.val % 128 + 128 := by decide +kernel
  have := key ⟨(x % 256).toNat, by omega⟩
  simp only [show (128 : Int).toNat = 128 from rfl]
  simp only at this
  rw [this]; omega
theorem sx_andNot128 {x : Int} (h : 0 ≤ x) (h' : x < 256) : Go.bits .andNot .u8 x 128 = x % 128 := by
  rw [u8_andNot _ _ h h' (by decide) (by decide)]
  have key : ∀ n : Fin 256, n.val &&& (255 - 128) = n.val % 128 := by decide +kernel
  have := key ⟨x.toNat, by omega⟩
  simp only [show (128 : Int).toNat = 128 from rfl]
  simp only at this
  rw [this]; omega
theorem sx_and128 {x : Int} (h : 0 ≤ x) (h' : x < 256) : Go.bits .and .u8 x 128 = if 128 ≤ x then 128 else 0 := by
  rw [u8_and _ _ h h' (by decide) (by decide)]
  have key : ∀ n : Fin 256, n.val &&& 128 = if 128 ≤ n.val then 128 else 0 := by decide +kernel
  have := key ⟨x.toNat, by omega⟩
  simp only [show (128 : Int).toNat = 128 from rfl]
  simp only at this
  rw [this]; split <;> split <;> omega
/-- two numbers that share no bit are added -/
theorem sx_or_add {x y : Int} (i : Nat) (hx : 0 ≤ x) (hx' : x < 2 ^ i) (hy : 0 ≤ y) (hy' : y * 2 ^ i < u64m) (hi : i < 64) : Go.bits .or .u64 x (y * 2 ^ i) = x + y * 2 ^ i := by
  have hp : (0 : Int) < 2 ^ i := Int.pow_pos (by decide)
  have h64 : x < u64m := Int.lt_of_lt_of_le hx' (by
    have : (2 : Int) ^ i ≤ 2 ^ 64 := by exact_mod_cast Nat.pow_le_pow_right (by decide : 0 < 2) (Nat.le_of_lt hi)
    simpa [u64m] using this)
  have hym : 0 ≤ y * 2 ^ i := Int.mul_nonneg hy (Int.le_of_lt hp)
  rw [u64_or _ _ hx h64 hym hy']
  obtain ⟨a, rfl⟩ := Int.eq_ofNat_of_zero_le hx
  obtain ⟨b, rfl⟩ := Int.eq_ofNat_of_zero_le hy
  have e : ((b : Int) * 2 ^ i).toNat = b * 2 ^ i := by
    have : ((b : Int) * 2 ^ i) = ((b * 2 ^ i : Nat) : Int) := by push_cast; rfl
    rw [this, Int.toNat_natCast]
  rw [e, Int.toNat_natCast]
  have ha : a < 2 ^ i := by exact_mod_cast hx'
  rw [Nat.or_comm, nat_join i (b * 2 ^ i) a (Nat.mul_mod_left _ _) ha]
  push_cast; omega
end Go.Sx
