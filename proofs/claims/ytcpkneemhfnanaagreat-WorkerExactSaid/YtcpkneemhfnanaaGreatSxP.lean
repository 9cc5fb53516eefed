/- The order of floats is that of their bits. Conditions: none. -/
import Derived.Test.YtcpkneemhfnanaaGreatSxFg
import Derived.Test.YtcpkneemhfnanaaGreatSxN
import Derived.Laws.IdiomCopy
import Derived.Test.YtcpkneemhfnanaaGreatSxFb
import Derived.Sort.AssemblyPlain
import Derived.Laws.StructEq
import Derived.Laws.BytesArg
namespace Go.Sx
set_option linter.unusedSimpArgs false
set_option linter.unusedVariables false
def Di (x : Nat) : Nat := x % 9223372036854775808
def Ef (x : Nat) : Int := if negB x then -(Di x : Int) else (Di x : Int)
def D7 (x : Nat) : Nat := magN x * 2 ^ (expN x - 1)
theorem Qo {x y : Nat} (h : Di x < Di y) : D7 x < D7 y := by
 have h' : expN x * 4503599627370496 + Ap x < expN y * 4503599627370496 + Ap y := by
  have hx : Di x = _ := Cw x
  have hy : Di y = _ := Cw y
  rw [hx, hy] at h; exact h
 have fx := B9 x; have fy := B9 y
 unfold D7
 by_cases he : expN x = expN y
 ·rw [he]
  apply Nat.mul_lt_mul_of_pos_right _ (Nat.two_pow_pos _)
  unfold magN
  rw [he] at h' ⊢
  split <;> omega
 ·have hlt : expN x < expN y := by omega
  have hy : 4503599627370496 ≤ magN y := by unfold magN; rw [if_neg (by omega)]; omega
  have h2 : 4503599627370496 * 2 ^ (expN y - 1) ≤ magN y * 2 ^ (expN y - 1) := Nat.mul_le_mul_right _ hy
  by_cases h0 : expN x = 0
  ·rw [h0]
   have hx : magN x = Ap x := by unfold magN; rw [if_pos h0]
   have hp : 1 ≤ 2 ^ (expN y - 1) := Nat.two_pow_pos _
   have h3 : 4503599627370496 * 1 ≤ 4503599627370496 * 2 ^ (expN y - 1) := Nat.mul_le_mul_left _ hp
   show magN x * 1 < _
   omega
  ·have h3 : 2 ^ (expN x - 1) * 2 ≤ 2 ^ (expN y - 1) := by
    rw [← Nat.pow_succ]; exact Nat.pow_le_pow_right (by decide) (by omega)
   have hm := H1 x
   have hp := Nat.two_pow_pos (expN x - 1)
   have h4 : magN x * 2 ^ (expN x - 1) < 9007199254740992 * 2 ^ (expN x - 1) := Nat.mul_lt_mul_of_pos_right hm hp
   have h5 : 4503599627370496 * (2 ^ (expN x - 1) * 2) ≤ 4503599627370496 * 2 ^ (expN y - 1) := Nat.mul_le_mul_left _ h3
   generalize 2 ^ (expN x - 1) = A at h4 h5 ⊢
   omega
theorem Kr {x y : Nat} : (D7 x < D7 y ↔ Di x < Di y) ∧ (D7 x = D7 y ↔ Di x = Di y) := by
 have eq_of : Di x = Di y → D7 x = D7 y := by
  intro h
  have hx : Di x = _ := Cw x
  have hy : Di y = _ := Cw y
  have fx := B9 x; have fy := B9 y
  have e1 : expN x = expN y := by omega
  have e2 : Ap x = Ap y := by omega
  unfold D7 magN; rw [e1, e2]
 rcases Nat.lt_trichotomy (Di x) (Di y) with h | h | h
 ·have := Qo h
  exact ⟨⟨fun _ => h, fun _ => this⟩, ⟨fun _ => by omega, fun _ => by omega⟩⟩
 ·have := eq_of h
  exact ⟨⟨fun _ => by omega, fun _ => by omega⟩, ⟨fun _ => h, fun _ => this⟩⟩
 ·have := Qo h
  exact ⟨⟨fun _ => by omega, fun _ => by omega⟩, ⟨fun _ => by omega, fun _ => by omega⟩⟩
theorem M7 {x : Nat} : D7 x = 0 ↔ Di x = 0 := by
 have h0 : D7 0 = 0 := by decide
 have h1 : Di 0 = 0 := by decide
 have := (Kr (x := x) (y := 0)).2
 rw [h0, h1] at this; exact this
theorem Aam {s t : Bool} {a b c d : Nat} (h1 : a < b ↔ c < d) (h2 : a = b ↔ c = d) (h3 : a = 0 ↔ c = 0) (h4 : b = 0 ↔ d = 0) :
  compare (if s then -(a : Int) else (a : Int)) (if t then -(b : Int) else (b : Int)) = compare (if s then -(c : Int) else (c : Int)) (if t then -(d : Int) else (d : Int)) := by
 simp only [compare, compareOfLessAndEq]
 cases s <;> cases t <;> simp only [if_true, Bool.false_eq_true, if_false]
 ·have e1 : ((a : Int) < b) ↔ ((c : Int) < d) := by omega
  have e2 : ((a : Int) = b) ↔ ((c : Int) = d) := by omega
  simp only [e1, e2]
 ·have e1 : ((a : Int) < -(b : Int)) ↔ ((c : Int) < -(d : Int)) := by omega
  have e2 : ((a : Int) = -(b : Int)) ↔ ((c : Int) = -(d : Int)) := by omega
  simp only [e1, e2]
 ·have e1 : (-(a : Int) < (b : Int)) ↔ (-(c : Int) < (d : Int)) := by omega
  have e2 : (-(a : Int) = (b : Int)) ↔ (-(c : Int) = (d : Int)) := by omega
  simp only [e1, e2]
 ·have e1 : (-(a : Int) < -(b : Int)) ↔ (-(c : Int) < -(d : Int)) := by omega
  have e2 : (-(a : Int) = -(b : Int)) ↔ (-(c : Int) = -(d : Int)) := by omega
  simp only [e1, e2]
theorem Aan {x : Nat} (h : Di x ≤ 9218868437227405312) : -9218868437227405312 ≤ Ef x ∧ Ef x ≤ 9218868437227405312 := by unfold Ef; split <;> omega
theorem Aao {x y : Nat} (hx : nanB x = false) (hy : nanB y = false) : ordB x y = some (compare (Ef x) (Ef y)) := by
 have num : ∀ z, nanB z = false → infB z = false → expN z < 2047 ∧ Di z < 9218868437227405312 := by
  intro z h1 h2
  have := F0 z; have hf := B9 z
  have hz : Di z = _ := Cw z
  rw [Er, decide_eq_false_iff_not] at h1
  rw [Gv, decide_eq_false_iff_not] at h2
  have : expN z ≠ 2047 := fun e => by
   by_cases hf0 : Ap z = 0
   ·exact h2 ⟨e, hf0⟩
   ·exact h1 ⟨e, hf0⟩
  omega
 have inf : ∀ z, infB z = true → Di z = 9218868437227405312 := by
  intro z h
  simp only [infB, decide_eq_true_eq] at h; exact h
 show (Ieee.double.read x).order (Ieee.double.read y) = _
 cases ix : infB x
 ·obtain ⟨ex, rx⟩ := num x hx ix
  rw [Es ex]
  cases iy : infB y
  ·obtain ⟨ey, ry⟩ := num y hy iy
   rw [Es ey, E3 (Iy x) (Iy y), valN ex, valN ey]
   congr 1
   exact Aam Kr.1 Kr.2 M7 M7
  ·rw [Em iy]
   have e := inf y iy
   show some (if negB y then Ordering.gt else Ordering.lt) = _
   congr 1
   unfold Ef
   rw [e]
   cases negB y
   ·simp only [Bool.false_eq_true, if_false]
    simp only [compare, compareOfLessAndEq]
    rw [if_pos (by split <;> omega)]
   ·simp only [if_true]
    simp only [compare, compareOfLessAndEq]
    rw [if_neg (by split <;> omega), if_neg (by split <;> omega)]
 ·rw [Em ix]
  have e := inf x ix
  cases iy : infB y
  ·obtain ⟨ey, ry⟩ := num y hy iy
   rw [Es ey]
   show some (if negB x then Ordering.lt else Ordering.gt) = _
   congr 1
   unfold Ef
   rw [e]
   cases negB x
   ·simp only [Bool.false_eq_true, if_false]
    simp only [compare, compareOfLessAndEq]
    rw [if_neg (by split <;> omega), if_neg (by split <;> omega)]
   ·simp only [if_true]
    simp only [compare, compareOfLessAndEq]
    rw [if_pos (by split <;> omega)]
  ·rw [Em iy]
   have e2 := inf y iy
   show some (compare (negB y).toNat (negB x).toNat) = _
   congr 1
   unfold Ef
   rw [e, e2]
   cases negB x <;> cases negB y <;> decide
def Hj (x : Nat) : Int := if nanB x then 9223372036854775807 else if 9223372036854775808 ≤ x then -1 - ((x : Int) - 9223372036854775808) else x
def ordN (a b : Nat) : Int := if Hj a < Hj b then -1 else if Hj b < Hj a then 1 else 0
theorem Oq {x : Nat} (hx : x < 18446744073709551616) (h : nanB x = false) : Hj x = Ef x - (if negB x then 1 else 0) ∧ Di x ≤ 9218868437227405312 := by
 have hn := Iz hx
 simp only [nanB, decide_eq_false_iff_not] at h
 unfold Hj Ef Di
 rw [show nanB x = false from by simp only [nanB, decide_eq_false_iff_not]; exact h, if_neg (by decide), hn]
 by_cases hs : 9223372036854775808 ≤ x
 ·rw [if_pos hs, decide_eq_true hs, if_pos rfl, if_pos rfl]; omega
 ·rw [if_neg hs, decide_eq_false hs, if_neg (by decide), if_neg (by decide)]; omega
theorem M8 {x : Nat} (hx : x < 18446744073709551616) (h : nanB x = false) : Hj x < 9223372036854775807 := by
 obtain ⟨h1, h2⟩ := Oq hx h
 have := Aan h2
 rw [h1]; split <;> omega
theorem Hk {x : Nat} (h : nanB x = true) : Hj x = 9223372036854775807 := by unfold Hj; rw [if_pos h]
theorem Ade {a b : Nat} (ha : a < 18446744073709551616) (hb : b < 18446744073709551616) (na : nanB a = false) (nb : nanB b = false) :
  ordN a b = if ordB a b == some .lt then -1 else if ordB a b == some .gt then 1 else if (if negB a then (0 : Int) else 1) < (if negB b then 0 else 1) then -1 else if (if negB a then (0 : Int) else 1) > (if negB b then 0 else 1) then 1 else 0 := by
 obtain ⟨h1, r1⟩ := Oq ha na
 obtain ⟨h2, r2⟩ := Oq hb nb
 obtain ⟨c1, c2, c3⟩ := Eo (a := Ef a) (b := Ef b)
 have e : ∀ (a b : Ordering), (some a == some b) = (a == b) := fun a b => by cases a <;> cases b <;> rfl
 rw [Aao na nb, e, e, c1, c3]
 have s1 : negB a = true → Ef a ≤ 0 := fun h => by unfold Ef; rw [if_pos h]; omega
 have s1' : negB a = false → 0 ≤ Ef a := fun h => by unfold Ef; rw [if_neg (by rw [h]; decide)]; omega
 have s2 : negB b = true → Ef b ≤ 0 := fun h => by unfold Ef; rw [if_pos h]; omega
 have s2' : negB b = false → 0 ≤ Ef b := fun h => by unfold Ef; rw [if_neg (by rw [h]; decide)]; omega
 unfold ordN
 rw [h1, h2]
 simp only [decide_eq_true_eq]
 cases hna : negB a <;> cases hnb : negB b <;> simp only [hna, hnb, if_true, Bool.false_eq_true, if_false, forall_const] at * <;> repeat' split
 all_goals omega
section
variable {P : Program} {α : Type}
def Row (w : World) (g : Nat) (e : TypeId) (cs : List Value) : Prop := w.heap[g]? = some (.cells cs.toArray e (0, 0))
theorem Own.row {w : World} {B : Nat} {e : TypeId} {E : Enc α} {a : Option Addr} {n c : Nat} {l : List α} (h : Own w B e E a n c l) :
  (a = none ∧ l = [] ∧ n = 0 ∧ c = 0) ∨ ∃ g cs, a = some ⟨g, 0, none⟩ ∧ B ≤ g ∧ Row w g e cs ∧ n = l.length ∧ n ≤ c ∧ c ≤ maxLen ∧ cs.length = c * E.sz ∧ cs.take (n * E.sz) = l.flatMap E.f := by
 rcases h.out with h | ⟨g, cur, h1, h2, h3, h4, h5, h6, h7, h8⟩
 ·exact .inl h
 ·exact .inr ⟨g, cur.toList, h1, h2, by simpa [Row] using h3, h4, h5, h6, by simpa using h7, h8⟩
theorem Own.ofRow {w : World} {B : Nat} {e : TypeId} {E : Enc α} {n c g : Nat} {cs : List Value} {l : List α} (hn : n = l.length) (hb : B ≤ g) (hg : Row w g e cs) (h1 : n ≤ c) (h2 : c ≤ maxLen) (h3 : cs.length = c * E.sz) (h4 : cs.take (n * E.sz) = l.flatMap E.f) :
  Own w B e E (some ⟨g, 0, none⟩) n c l := Own.mk' hn hb hg h1 h2 (by simpa using h3) (by simpa using h4)
theorem Own.take {w : World} {B : Nat} {e : TypeId} {E : Enc α} {a : Option Addr} {n c : Nat} {l : List α} (h : Own w B e E a n c l) {k : Nat} (hk : k ≤ n) : Own w B e E a k c (l.take k) := by
 rcases h.row with ⟨rfl, rfl, rfl, rfl⟩ | ⟨g, cs, rfl, h2, h3, h4, h5, h6, h7, h8⟩
 ·obtain rfl : k = 0 := by omega
  simpa using Own.nil _ _ _ _
 ·refine Own.ofRow (by simp; omega) h2 h3 (by omega) h6 h7 ?_
  have : (l.take k).flatMap E.f = (l.flatMap E.f).take (k * E.sz) := by
   have hl : l.flatMap E.f = (l.take k).flatMap E.f ++ (l.drop k).flatMap E.f := by rw [← List.flatMap_append, List.take_append_drop]
   rw [hl, List.take_left' (by rw [Cx, List.length_take, Nat.min_eq_left (by omega)])]
  rw [this, ← h8, List.take_take, Nat.min_eq_left (Nat.mul_le_mul_right _ hk)]
theorem Row.cell {w : World} {g : Nat} {e : TypeId} {cs : List Value} (h : Row w g e cs) (o : Nat) : w.cell? ⟨g, o, none⟩ = cs[o]? := by rw [Lc h]; simp
theorem Row.lt {w : World} {g : Nat} {e : TypeId} {cs : List Value} (h : Row w g e cs) : g < w.heap.size := lt_of_heap h
theorem Row.upd {S : Nat → Prop} {w w' : World} {g : Nat} {e : TypeId} {cs : List Value} (h : Row w g e cs) (hu : Upd S w w') (hn : ¬ S g) : Row w' g e cs := hu.heap hn h
theorem Row.grew {w w' : World} {g : Nat} {e : TypeId} {cs : List Value} (h : Row w g e cs) (hu : Grew w w') : Row w' g e cs := hu.heap h
theorem Row.set1 {w : World} {g : Nat} {e : TypeId} {cs : List Value} (h : Row w g e cs) {o : Nat} (ho : o < cs.length) (v : Value) :
  Af w ⟨g, o, none⟩ 0 [v] ∧ Row (setCells w ⟨g, o, none⟩ 0 [v]) g e (cs.set o v) ∧ Upd (fun b => b = g) w (setCells w ⟨g, o, none⟩ 0 [v]) := by
 obtain ⟨h1, h2⟩ := M0 h o v
 refine ⟨Hy (vs := [v]) h (by simp; omega), ?_, ?_⟩
 ·show (setCells w ⟨g, o, none⟩ 0 [v]).heap[g]? = _
  simp only [setCells, Au, Nat.add_zero]
  rw [h1]; simp
 ·simpa only [setCells, Au, Nat.add_zero] using h2
def Enc.slice : Enc (Option Addr × Nat × Nat) := ⟨1, fun p => [.slice p.1 p.2.1 p.2.2], fun _ => rfl, by decide, fun _ v h => by simp at h; subst h; rfl⟩
def Reads (w : World) (E : Enc α) (p : Option Addr × Nat × Nat) (l : List α) : Prop := Sl w p.1 E l ∧ p.2.1 = l.length ∧ (p.1 = none → p.2.2 = 0) ∧ p.2.1 ≤ p.2.2
theorem Reads.grew {w w' : World} {E : Enc α} {p : Option Addr × Nat × Nat} {l : List α} (h : Reads w E p l) (hg : Grew w w') : Reads w' E p l := ⟨h.1.grew hg, h.2⟩
theorem Reads.cut {w : World} {E : Enc α} {a : Option Addr} {n c : Nat} {l : List α} (h : Reads w E (a, n, c) l) {i j : Nat} (hij : i ≤ j) (hj : j ≤ n) :
  Reads w E (if c = i then a else a.map (fun x => x.add (i * E.sz)), j - i, c - i) ((l.take j).drop i) := by
 obtain ⟨h1, h2, h3, h4⟩ := h
 simp only at h1 h2 h3 h4
 subst h2
 refine ⟨(h1.take j).drop i c (by simp; omega) (by simp; omega), by simp; omega, fun hn => ?_, by simp only; omega⟩
 simp only at hn ⊢
 split at hn
 ·omega
 ·cases a with
  | none => have := h3 rfl; omega
  | some d => cases hn
theorem Reads.at0 {w : World} {E : Enc α} {a : Option Addr} {n c : Nat} {l : List α} (h : Reads w E (a, n, c) l) {k : Nat} (hk : k < n) : ∃ d x, a = some d ∧ l[k]? = some x ∧ Ae w (d.add (k * E.sz)) 0 (E.f x) := by
 have hn : n = l.length := h.2.1
 have := h.1.at_ (n := k) (by omega) (by omega)
 simpa using this
theorem Own.reads {w : World} {B : Nat} {e : TypeId} {E : Enc α} {a : Option Addr} {n c : Nat} {l : List α} (h : Own w B e E a n c l) : Reads w E (a, n, c) l := ⟨h.sl, h.len, h.out_none, h.le.1⟩
end
structure RecV where
 key : Int
 val : Nat
deriving DecidableEq
structure OpV where
 kind : Int
 n : Int
 x : Nat
deriving DecidableEq
def Enc.rcd : Enc RecV := ⟨2, fun r => [.int .u64 r.key, .float .f64 r.val], fun _ => rfl, by decide, fun x v h => by simp at h; rcases h with rfl | rfl <;> rfl⟩
def Enc.op3 : Enc OpV := ⟨3, fun o => [.int .i64 o.kind, .int .i64 o.n, .float .f64 o.x], fun _ => rfl, by decide, fun x v h => by simp at h; rcases h with rfl | rfl | rfl <;> rfl⟩
@[reducible] def RecV.v (r : RecV) : Value := .agg #[.int .u64 r.key, .float .f64 r.val]
@[reducible] def OpV.v (o : OpV) : Value := .agg #[.int .i64 o.kind, .int .i64 o.n, .float .f64 o.x]
def RecV.Fits (r : RecV) : Prop := (0 ≤ r.key ∧ r.key < u64m) ∧ r.val < 18446744073709551616
def OpV.Fits (o : OpV) : Prop := (-9223372036854775808 ≤ o.kind ∧ o.kind < 9223372036854775808) ∧ (-9223372036854775808 ≤ o.n ∧ o.n < 9223372036854775808) ∧ o.x < 18446744073709551616
def Bn (o : OpV) : Bool := if o.kind = 7 then decide (-2200 ≤ o.n ∧ o.n ≤ 2200) else if o.kind = 11 then decide (1 ≤ o.n) else decide (1 ≤ o.kind ∧ o.kind ≤ 12)
def Aw (l : List OpV) : Bool := decide (l.length ≤ 8) && l.all Bn
def A0 (o : OpV) (x : Nat) : Option (Nat × Bool) :=
 if o.kind = 1 then some (x, ordB x o.x == some .lt)
 else if o.kind = 2 then some (x, ordB x o.x == some .gt)
 else if o.kind = 3 then some (x, !nanB x)
 else if o.kind = 4 then some (Ep x (if Ep 4607182418800017408 x < 9223372036854775808 then Ep 4607182418800017408 x + 9223372036854775808 else Ep 4607182418800017408 x - 9223372036854775808), true)
 else if o.kind = 5 then some (x % 9223372036854775808, true)
 else if o.kind = 6 then some (Da x, true)
 else if o.kind = 7 then some (Iw x o.n, true)
 else if o.kind = 8 then some (divF 4607182418800017408 x, true)
 else if o.kind = 9 then (if nanB x || infB x then none else some (x, true))
 else if o.kind = 10 then (if By x = 0 then none else some (numOf (IntKind.i64.wrap (Int.tdiv o.n (By x))), true))
 else some (x, true)
def keyB (o : OpV) (k : Int) (x : Nat) : Int :=
 if o.kind = 11 then Int.tmod k (IntKind.u64.wrap o.n) else if o.kind = 12 then IntKind.u64.wrap (IntKind.u64.wrap (Int.tmod k 4611686018427387904 * 4) + Ie x) else k
def Ge (o : OpV) (r : RecV) : Option (RecV × Bool) :=
 match A0 o (Al r.val) with
 | none => none
 | some (y, b) => some (⟨keyB o r.key (Al r.val), Al y⟩, b)
def rec0 : RecV := ⟨0, 0⟩
def Fi : List OpV → RecV → RecV × Int
 | [], r => (r, 1)
 | o :: l, r => match Ge o r with
  | none => (rec0, 3)
  | some (_, false) => (rec0, 2)
  | some (r', true) => Fi l r'
def runB (l : List OpV) (r : RecV) : RecV × Int := if Aw l then Fi l ⟨r.key, Al r.val⟩ else (rec0, 0)
def A8 (l : List OpV) (r : RecV) : Int × Bool := ((runB l r).1.key, decide ((runB l r).2 = 1))
theorem Xs {x : Nat} (hx : x < 18446744073709551616) : (Dy x).1 < 18446744073709551616 := by
 unfold Dy; split
 ·exact Lf _ _
 ·exact hx
theorem Xt {x : Nat} {e : Int} (hx : x < 18446744073709551616) : Gb x e < 18446744073709551616 := by
 have hn := Xs hx
 unfold Gb
 split
 ·exact hx
 split
 ·exact hx
 split
 ·exact hx
 generalize (Dy x).1 = fr at hn ⊢
 simp only
 split
 ·exact Hi hn
 split
 ·split <;> decide
 split
 ·exact Lf _ _
 ·exact Lf _ _
theorem Qp {x : Nat} {n : Int} (hx : x < 18446744073709551616) : Iw x n < 18446744073709551616 := B6 (Xt hx)
theorem Nr {y : Nat} (h : y < 18446744073709551616) : (if y < 9223372036854775808 then y + 9223372036854775808 else y - 9223372036854775808) < 18446744073709551616 := by split <;> omega
theorem Aap {o : OpV} {x y : Nat} {b : Bool} (hx : x < 18446744073709551616) (h : A0 o x = some (y, b)) : y < 18446744073709551616 := by
 have some_out : ∀ {a c : Nat} {p q : Bool}, some (a, p) = some (c, q) → a = c := fun h => (Prod.mk.inj (Option.some.inj h)).1
 unfold A0 at h
 split at h
 ·rw [← some_out h]; exact hx
 split at h
 ·rw [← some_out h]; exact hx
 split at h
 ·rw [← some_out h]; exact hx
 split at h
 ·rw [← some_out h]; exact Hi (Nr (Hi hx))
 split at h
 ·rw [← some_out h]; omega
 split at h
 ·rw [← some_out h]; exact L6 _
 split at h
 ·rw [← some_out h]; exact Qp hx
 split at h
 ·rw [← some_out h]; exact Wd _ _
 split at h
 ·split at h
  ·cases h
  ·rw [← some_out h]; exact hx
 split at h
 ·split at h
  ·cases h
  ·rw [← some_out h]; exact Om _
 ·rw [← some_out h]; exact hx
theorem Xu {o : OpV} {k : Int} {x : Nat} (hs : Bn o = true) (hn : o.n < 9223372036854775808) (hk : 0 ≤ k ∧ k < u64m) : 0 ≤ keyB o k x ∧ keyB o k x < u64m := by
 unfold keyB
 split
 ·rename_i h
  unfold Bn at hs
  rw [if_neg (by omega), if_pos h] at hs
  simp only [decide_eq_true_eq] at hs
  have hw : IntKind.u64.wrap o.n = o.n := by rw [IntKind.wrap_u64]; omega
  rw [hw]
  refine ⟨Int.tmod_nonneg _ hk.1, ?_⟩
  have := Int.tmod_lt_of_pos k (show 0 < o.n by omega)
  simp only [u64m]; omega
 ·split
  ·rw [IntKind.wrap_u64]
   simp only [u64m]
   omega
  ·exact hk
theorem I8 {o : OpV} {r r' : RecV} {b : Bool} (hs : Bn o = true) (ho : o.Fits) (hr : r.Fits) (h : Ge o r = some (r', b)) : r'.Fits := by
 unfold Ge at h
 split at h
 ·cases h
 ·rename_i y b' ht
  simp only [Option.some.injEq, Prod.mk.injEq] at h
  obtain ⟨rfl, -⟩ := h
  exact ⟨Xu hs ho.2.1.2 hr.1, B6 (Aap (B6 hr.2) ht)⟩
theorem Cu {l : List OpV} (h : Aw l = true) : l.length ≤ 8 ∧ ∀ o ∈ l, Bn o = true := by
 unfold Aw at h
 simp only [Bool.and_eq_true, decide_eq_true_eq, List.all_eq_true] at h
 exact h
theorem Ot : ∀ {l : List OpV} {r : RecV}, (∀ o ∈ l, Bn o = true ∧ o.Fits) → r.Fits → (Fi l r).1.Fits
 | [], r, _, hr => hr
 | o :: l, r, hl, hr => by
  unfold Fi
  split
  ·exact ⟨⟨by decide, by decide⟩, by decide⟩
  ·exact ⟨⟨by decide, by decide⟩, by decide⟩
  ·rename_i r' h
   exact Ot (fun o h => hl o (by simp [h])) (I8 (hl o (by simp)).1 (hl o (by simp)).2 hr h)
theorem Hl {l : List OpV} {r : RecV} (hl : ∀ o ∈ l, o.Fits) (hr : r.Fits) : (runB l r).1.Fits := by
 unfold runB
 split
 ·rename_i h
  exact Ot (fun o ho => ⟨(Cu h).2 o ho, hl o ho⟩) ⟨hr.1, B6 hr.2⟩
 ·exact ⟨⟨by decide, by decide⟩, by decide⟩
end Go.Sx
namespace Go.Sx
theorem Row.setAll' {w : World} {g : Nat} {e : TypeId} {cs vs : List Value} (h : Row w g e cs) (hl : vs.length = cs.length) :
  Af w ⟨g, 0, none⟩ 0 vs ∧ Row (setCells w ⟨g, 0, none⟩ 0 vs) g e vs ∧ Upd (fun b => b = g) w (setCells w ⟨g, 0, none⟩ 0 vs) := by
 obtain ⟨cs', h1, h2, h3, h4⟩ := Hw (vs := vs) (o := 0) (i := 0) h
 refine ⟨Hy h (by simp; omega), ?_, h4⟩
 unfold Row
 rw [h1]
 have : cs' = vs.toArray := by
  apply Array.ext_getElem?
  intro j
  rw [h3 j]
  simp only [Nat.zero_add, Nat.sub_zero, List.size_toArray]
  by_cases hj : j < vs.length
  ·rw [if_pos ⟨Nat.zero_le _, hj, by omega⟩]; simp
  ·rw [if_neg (by omega)]
   rw [Array.getElem?_eq_none (by simp; omega), Array.getElem?_eq_none (by simp; omega)]
 rw [this]
theorem Row.cellsAt {w : World} {g : Nat} {e : TypeId} {cs : List Value} (h : Row w g e cs) : Ae w ⟨g, 0, none⟩ 0 cs :=
 Ga fun j v hv => by
  rw [Nat.zero_add]
  show w.cell? (Addr.add ⟨g, 0, none⟩ j) = _
  rw [Au, Nat.zero_add, h.cell]; exact hv
end Go.Sx
namespace Go.Sx
set_option linter.unusedSimpArgs false
set_option linter.unusedVariables false
structure Ou where
 key : Int
 ph : Bool
 pb : Int
 ch : Bool
 cb : Int
 batch : Int
deriving DecidableEq
def Ou.vals (x : Ou) : List Value := [.int .u64 x.key, .bool x.ph, .int .u64 x.pb, .bool x.ch, .int .u64 x.cb, .int .i64 x.batch]
def Enc.cell : Enc Ou := ⟨6, Ou.vals, fun _ => rfl, by decide, fun x v h => by simp [Ou.vals] at h; rcases h with rfl | rfl | rfl | rfl | rfl | rfl <;> rfl⟩
structure Ou.Fits (x : Ou) : Prop where
 k0 : 0 ≤ x.key
 k1 : x.key < u64m
 p0 : 0 ≤ x.pb
 p1 : x.pb < u64m
 c0 : 0 ≤ x.cb
 c1 : x.cb < u64m
 b0 : -9223372036854775808 ≤ x.batch
 b1 : x.batch < 9223372036854775808
abbrev RdS := List Int × Int
end Go.Sx
namespace Go.Sx
set_option linter.unusedSimpArgs false
set_option linter.unusedVariables false
section
variable {α β : Type}
end
end Go.Sx
namespace Go.Sx
set_option linter.unusedSimpArgs false
set_option linter.unusedVariables false
section
variable {P : Program}
abbrev Ar (k : IntKind) (e : TypeId) (B : Nat) (a : Option Addr) (n c : Nat) (w : World) (d : Array Int) : Prop := Own w B e (Enc.int k) a n c d.toList
theorem Ar.rd {k : IntKind} {e : TypeId} {B : Nat} {a : Option Addr} {n c : Nat} {w : World} {d : Array Int} {K : Int → Addr → Prop} {j : Int} (h : Ar k e B a n c w d) {i : Nat} (hj : j = i) (hi : i < d.size) (hK : ∀ p, K d[i]! p) :
  Ab a (fun p => (0 ≤ j ∧ j < (n : Nat)) ∧ ∃ x : Int, w.cell? (Addr.add p (j.toNat * 1)) = some (.int k x) ∧ K x p) := by
 subst hj
 have hn : n = d.size := by have := h.len; simpa using this
 obtain ⟨p, x, rfl, hx, hc⟩ := h.reads.at0 (k := i) (by omega)
 have hx' : x = d[i]! := by
  rw [getElem!_pos d i hi]
  simp at hx
  rw [Array.getElem?_eq_getElem hi] at hx
  exact (Option.some.inj hx).symm
 subst hx'
 exact ⟨by omega, _, by simpa [Enc.int, Ae, Addr.add_zero'] using hc, hK p⟩
theorem Ar.st {k : IntKind} {e : TypeId} {B : Nat} {a : Option Addr} {n c : Nat} {w : World} {d : Array Int} {K : World → Addr → Prop} {j : Int} (h : Ar k e B a n c w d) {i : Nat} (hj : j = i) (hi : i < d.size) {x : Int} (hK : ∀ p w', Ar k e B a n c w' (d.setIfInBounds i x) → Upd (Blk a) w w' → K w' p) :
  Ab a (fun p => (0 ≤ j ∧ j < (n : Nat)) ∧ Af w (Addr.add p (j.toNat * 1)) 0 [.int k x] ∧ ∀ w', w' = setCells w (Addr.add p (j.toNat * 1)) 0 [.int k x] → K w' p) := by
 subst hj
 have hn : n = d.size := by have := h.len; simpa using this
 obtain ⟨p, hp, h1, h2, h3⟩ := h.set (i := i) (by simpa using hi) x
 subst hp
 refine ⟨by omega, by simpa [Enc.int] using h1, ?_⟩
 rintro w' rfl
 refine hK p _ ?_ (by simpa [Enc.int] using h3)
 show Own _ B e (Enc.int k) (some p) n c (d.setIfInBounds i x).toList
 simpa [Enc.int] using h2
theorem Ar.grew {k : IntKind} {e : TypeId} {B : Nat} {a : Option Addr} {n c : Nat} {w w' : World} {d : Array Int} (h : Ar k e B a n c w d) (hg : Grew w w') : Ar k e B a n c w' d := Own.grew h hg
theorem Cl (w : World) : ∀ T : List Addr, Ad w w T
 | [] => trivial
 | _ :: r => ⟨rfl, Cl w r⟩
theorem Cb (d : Array Int) (i j : Nat) : (Go.Sort.swp d i j).size = d.size := by simp [Sort.swp]
open Go.Sort
theorem insInner_stop {a j : Nat} {d : Array Int} (h : j ≤ a) : insInner ltInt a j d = d := by
 cases j with
 | zero => rfl
 | succ j => rw [insInner, if_neg (by simp; omega)]
theorem S8 {a j : Nat} {d : Array Int} (h : ltInt d[j]! d[j - 1]! = false) : insInner ltInt a j d = d := by
 cases j with
 | zero => rfl
 | succ j => rw [insInner, if_neg (by simp only [Nat.add_sub_cancel] at h; rw [h]; simp)]
theorem R0 {a j : Nat} {d : Array Int} (ha : a < j) (h : ltInt d[j]! d[j - 1]! = true) : insInner ltInt a j d = insInner ltInt a (j - 1) (swp d j (j - 1)) := by
 cases j with
 | zero => omega
 | succ j => simp only [Nat.add_sub_cancel] at h ⊢; rw [insInner, if_pos (by rw [h]; simp; omega)]
theorem insOuter_go {a b i : Nat} {d : Array Int} (h : i < b) : insOuter ltInt a b i d = insOuter ltInt a b (i + 1) (insInner ltInt a i d) := by rw [insOuter, if_pos h]
theorem R1 {a b i : Nat} {d : Array Int} (h : ¬ i < b) : insOuter ltInt a b i d = d := by rw [insOuter, if_neg h]
def child (hi first root : Nat) (d : Array Int) : Nat := if 2 * root + 2 < hi ∧ ltInt d[first + (2 * root + 1)]! d[first + (2 * root + 2)]! = true then 2 * root + 2 else 2 * root + 1
theorem S9 {hi first root : Nat} {d : Array Int} (h : ¬ 2 * root + 1 ≥ hi) : child hi first root d < hi ∧ root < child hi first root d := by
 unfold child; split <;> omega
theorem Li {hi first root : Nat} {d : Array Int} (h : 2 * root + 1 ≥ hi) : siftDown ltInt hi first root d = d := by rw [siftDown, dif_pos h]
theorem M9 {hi first root : Nat} {d : Array Int} (h : ¬ 2 * root + 1 ≥ hi) : siftDown ltInt hi first root d = if ltInt d[first + root]! d[first + child hi first root d]! = true then siftDown ltInt hi first (child hi first root d) (swp d (first + root) (first + child hi first root d)) else d := by
 rw [siftDown, dif_neg h]
 unfold child
 by_cases hc : 2 * root + 2 < hi ∧ ltInt d[first + (2 * root + 1)]! d[first + (2 * root + 2)]! = true
 ·rw [if_pos (by simp only [Bool.and_eq_true, decide_eq_true_eq]; exact hc), if_pos hc, dif_pos hc.1]
  cases hl : ltInt d[first + root]! d[first + (2 * root + 2)]! <;> simp
 ·rw [if_neg (by simp only [Bool.and_eq_true, decide_eq_true_eq]; exact hc), if_neg hc]
  cases hl : ltInt d[first + root]! d[first + (2 * root + 1)]! <;> simp
theorem Gf (hi first : Nat) : ∀ (n root : Nat) (d : Array Int), hi - root ≤ n → (siftDown ltInt hi first root d).size = d.size
 | n, root, d, hn => by
  by_cases h : 2 * root + 1 ≥ hi
  ·rw [Li h]
  ·have hc := S9 (first := first) (d := d) h
   rw [M9 h]
   split
   ·cases n with
    | zero => omega
    | succ n => rw [Gf hi first n _ _ (by omega), Cb]
   ·rfl
theorem scanUp_go {p : Int → Bool} {d : Array Int} {j i : Nat} (h : i ≤ j) (hp : p d[i]! = true) : scanUp p d j i = scanUp p d j (i + 1) := by
 rw [scanUp, if_pos (by simp [h, hp])]
theorem scanUp_end {p : Int → Bool} {d : Array Int} {j i : Nat} (h : i ≤ j → p d[i]! = false) : scanUp p d j i = i := by
 rw [scanUp, if_neg]
 intro h'
 simp only [Bool.and_eq_true, decide_eq_true_eq] at h'
 rw [h h'.1] at h'; exact absurd h'.2 (by simp)
theorem scanDown_go {p : Int → Bool} {d : Array Int} {i j : Nat} (h0 : 0 < j) (h : i ≤ j) (hp : p d[j]! = true) : scanDown p d i j = scanDown p d i (j - 1) := by
 cases j with
 | zero => omega
 | succ j => rw [scanDown, if_pos (by simp [h, hp])]; rfl
theorem scanDown_end {p : Int → Bool} {d : Array Int} {i j : Nat} (h : i ≤ j → p d[j]! = false) : scanDown p d i j = j := by
 cases j with
 | zero => rfl
 | succ j =>
  rw [scanDown, if_neg]
  intro h'
  simp only [Bool.and_eq_true, decide_eq_true_eq] at h'
  rw [h h'.1] at h'; exact absurd h'.2 (by simp)
def LenP (x : Int) (w : World) (v : Value) (w' : World) : Prop := ∃ m : Nat, v = .int .i64 m ∧ m ≤ 64 ∧ (0 < x → (2 : Int) ^ m ≤ 2 * x) ∧ w' = w
def Ae7 (A : Array UInt8) : Bool := (List.range 256).all fun y => match A[y]? with
 | some b => decide (b.toNat ≤ 8) && (Nat.beq y 0 || decide (2 ^ b.toNat ≤ 2 * y))
 | none => false
theorem Gw {A : Array UInt8} (hA : Ae7 A = true) {E K x : Int} {w : World} {k : Nat} (h0 : 0 ≤ E) (h1 : E < 256) (hK : K = k) (hk : k ≤ 56) (hx : 0 < x → 0 < E ∧ E * 2 ^ k ≤ x) :
  ∃ b : UInt8, (0 ≤ IntKind.u8.wrap E ∧ A[(IntKind.u8.wrap E).toNat]? = some b) ∧ ∀ n7 : Int, n7 = IntKind.i64.wrap (b.toNat : Int) → ∀ n8 : Int, n8 = IntKind.i64.wrap (K + n7) → Rets (LenP x w) (.returned (.int .i64 n8)) w := by
 have hw : IntKind.u8.wrap E = E := by rw [IntKind.wrap_u8']; omega
 rw [hw]
 have hall := List.all_eq_true.1 hA E.toNat (by simp; omega)
 cases hb : A[E.toNat]? with
 | none => rw [hb] at hall; cases hall
 | some b =>
  rw [hb] at hall
  simp only [Bool.and_eq_true, Bool.or_eq_true, decide_eq_true_eq] at hall
  refine ⟨b, ⟨h0, rfl⟩, ?_⟩
  rintro n7 rfl n8 rfl
  have hw1 : IntKind.i64.wrap (b.toNat : Int) = (b.toNat : Int) := by rw [IntKind.wrap_i64]; omega
  have hw2 : IntKind.i64.wrap (K + (b.toNat : Int)) = ((b.toNat + k : Nat) : Int) := by rw [hK, IntKind.wrap_i64]; omega
  rw [hw1, hw2]
  refine ⟨_, rfl, b.toNat + k, rfl, by omega, fun hx0 => ?_, rfl⟩
  obtain ⟨hE, hEx⟩ := hx hx0
  have h2 : 2 ^ b.toNat ≤ 2 * E.toNat := by
   rcases hall.2 with h | h
   ·have := Nat.eq_of_beq_eq_true h; omega
   ·exact h
  have h3 : (2 : Int) ^ b.toNat ≤ 2 * E := by
   have : ((2 ^ b.toNat : Nat) : Int) ≤ ((2 * E.toNat : Nat) : Int) := by exact_mod_cast h2
   push_cast at this
   rw [Int.toNat_of_nonneg h0] at this
   exact this
  rw [Int.pow_add]
  have hp : (0 : Int) < 2 ^ k := Int.pow_pos (by decide)
  have h4 : (2 : Int) ^ b.toNat * 2 ^ k ≤ 2 * E * 2 ^ k := Int.mul_le_mul_of_nonneg_right h3 (Int.le_of_lt hp)
  rw [Int.mul_assoc] at h4
  omega
theorem Ov {x : Int} (h : 0 ≤ x) (k : Nat) (j : Int) (hj : j = k) (hk : k ≤ 64) : Int.fdiv x (2 ^ (min j.toNat (IntKind.bits .u64))) = x / 2 ^ k := by
 subst hj
 have hm : min ((k : Int)).toNat (IntKind.bits .u64) = k := by simp [IntKind.bits]; omega
 rw [hm, Int.fdiv_eq_ediv_of_nonneg _ (Int.le_of_lt (Int.pow_pos (by decide)))]
theorem Xv (x y : Int) : 0 ≤ Go.bits .xor .u64 x y ∧ Go.bits .xor .u64 x y < 18446744073709551616 := by
 show 0 ≤ IntKind.u64.wrap _ ∧ IntKind.u64.wrap _ < _
 rw [IntKind.wrap_u64]; omega
def B3 (l : List Int) : List Int := l.mergeSort fun x y => decide (x ≤ y)
theorem R2 {l : List Int} {d : Array Int} (hp : PermIn 0 l.length l.toArray d) (hs : SortedIn ltInt 0 l.length d) : d.toList = B3 l := by
 have h := sorted_unique_holds (lt := ltInt) swo_ltInt (fun x y h1 h2 => by simp [ltInt] at h1 h2; omega) l.toArray d (by simpa using hp) (by simpa using hs)
 rw [h]
 unfold B3
 simp only [ltInt]
 congr 1
 funext x y
 by_cases hxy : x ≤ y
 ·simp [hxy]
 ·simp [hxy]; omega
end
end Go.Sx
namespace Go.Sx
set_option linter.unusedSimpArgs false
set_option linter.unusedVariables false
section
variable {α : Type}
variable {S : RdS → α × RdS} {pr : α → List Int} {ok : α → Prop}
end
def Dc : List Int → Bool
 | [] => true
 | [_] => true
 | x :: y :: r => decide (x < y) && Dc (y :: r)
theorem Fj : ∀ (l : List Int), Dc l = true ↔ ∀ (i : Nat) (x y : Int), l[i]? = some x → l[i + 1]? = some y → x < y
 | [] => by simp [Dc]
 | [_] => by simp [Dc]
 | x :: y :: r => by
  rw [Dc, Bool.and_eq_true, decide_eq_true_eq, Fj (y :: r)]
  constructor
  ·rintro ⟨h1, h2⟩ i u v hu hv
   cases i with
   | zero => simp at hu hv; subst hu; subst hv; exact h1
   | succ i => exact h2 i u v (by simpa using hu) (by simpa using hv)
  ·intro h
   exact ⟨h 0 x y rfl rfl, fun i u v hu hv => h (i + 1) u v (by simpa using hu) (by simpa using hv)⟩
structure Aec where
 batch : Int
 attempt : Int
 keys : List Int
def Aeq (l : List Int) : Prop := ∀ x ∈ l, 0 ≤ x ∧ x < u64m
structure Aec.Fits (m : Aec) : Prop where
 b0 : -9223372036854775808 ≤ m.batch
 b1 : m.batch < 9223372036854775808
 a0 : -9223372036854775808 ≤ m.attempt
 a1 : m.attempt < 9223372036854775808
 ks : Aeq m.keys
theorem Bf (l : List Int) : (B3 l).Perm l := List.mergeSort_perm l _
theorem H2 (l : List Int) : (B3 l).Pairwise (· ≤ ·) := by
 have := List.pairwise_mergeSort (le := fun x y : Int => decide (x ≤ y)) (fun a b c => by simp; omega) (fun a b => by simp; omega) l
 unfold B3
 exact this.imp fun h => by simpa using h
end Go.Sx
namespace Go.Sx
set_option linter.unusedSimpArgs false
set_option linter.unusedVariables false
section
variable {P : Program}
def Wk (P : Program) (t : TypeId) (xs : Array Value) (off : Nat) : Option Value :=
 match aggB P t with
 | some true => match sizeOf P t with | some n => some (.agg (xs.extract off (off + n))) | none => none
 | some false => xs[off]?
 | none => none
theorem Qq {t : TypeId} {xs : Array Value} {off : Nat} {v : Value} (h : Wk P t xs off = some v) (w : World) : (part t xs off).run P w = .ok v w := by
 unfold Wk at h
 split at h
 ·rename_i hb
  split at h
  ·rename_i n hn
   cases h
   have hs : (Go.sizeOf t).run P w = .ok n w := by
    unfold Go.Sx.sizeOf at hn
    split at hn
    ·rename_i i hi; cases hn; simp [Go.sizeOf, typeInfo, hi]
    ·cases hn
   simp only [part, Sem.run_bind, Hs hb, Result.andThen_ok, if_true, hs, Sem.run_pure]
  ·cases h
 ·rename_i hb
  simp only [part, Sem.run_bind, Hs hb, Result.andThen_ok, Bool.false_eq_true, if_false, h, Sem.run_pure]
 ·cases h
def eqFB (P : Program) (eq : TypeId → Value → Value → Option Bool) (xs ys : Array Value) : List Field → Option Bool
 | [] => some true
 | f :: r =>
  cond (f.name == "_") (eqFB P eq xs ys r)
   (match Wk P f.type xs f.offset, Wk P f.type ys f.offset with
   | some a, some b => match eq f.type a b, eqFB P eq xs ys r with | some u, some v => some (u && v) | _, _ => none
   | _, _ => none)
def eqVB (P : Program) : Nat → TypeId → Value → Value → Option Bool
 | 0 => fun _ _ _ => none
 | d + 1 => fun t x y =>
  match P.underlying t, x, y with
  | some (.int _), .int k a, .int k' b => cond (k == k') (some (a == b)) none
  | some .bool, .bool a, .bool b => some (a == b)
  | some .string, .string a, .string b => some (a == b)
  | some (.struct fs), .agg xs, .agg ys => cond (P.stoodInHeld t) none (eqFB P (eqVB P d) xs ys fs.toList)
  | _, _, _ => none
theorem Ow {d : Nat} {eq : TypeId → Value → Value → Option Bool} (he : ∀ {t : TypeId} {x y : Value} {b : Bool}, eq t x y = some b → ∀ w, (Op.equalIn d t x y).run P w = .ok b w) {xs ys : Array Value} : ∀ (fs : List Field) {b : Bool}, eqFB P eq xs ys fs = some b → ∀ w, (Op.eqFields d xs ys fs).run P w = .ok b w
 | [], _, h, _ => by rw [eqFB] at h; cases h; simp [Op.eqFields]
 | f :: r, b, h, w => by
  rw [eqFB] at h
  rw [Op.eqFields]
  cases hn : f.name == "_" with
  | true =>
   rw [hn] at h
   have hn' : ¬ (f.name ≠ "_") := by simpa using hn
   rw [if_neg hn']
   exact Ow he r h w
  | false =>
   rw [hn] at h
   have hn' : f.name ≠ "_" := by simpa using hn
   simp only [cond_false] at h
   split at h
   ·rename_i a b' ha hb
    split at h
    ·rename_i u v hu hv
     cases h
     simp only [if_pos hn', Sem.run_bind, Qq ha, Qq hb, he hu, Result.andThen_ok]
     cases u
     ·simp
     ·simpa using Ow he r hv w
    ·cases h
   ·cases h
theorem Ta : ∀ (d : Nat) {t : TypeId} {x y : Value} {b : Bool}, eqVB P d t x y = some b → ∀ w, (Op.equalIn d t x y).run P w = .ok b w
 | 0, _, _, _, _, h, _ => by simp [eqVB] at h
 | d + 1, t, x, y, b, h, w => by
  simp only [eqVB] at h
  split at h
  ·rename_i k0 k a k' b' hu
   cases hk : k == k' with
   | false => rw [hk] at h; cases h
   | true =>
    rw [hk] at h; cases h
    have : k = k' := by revert hk; cases k <;> cases k' <;> intro hk <;> first | rfl | cases hk
    subst this
    exact run_equalIn_int w d t k k0 a b' hu
  ·rename_i a b' hu
   cases h
   exact run_equalIn_bool w d t a b' hu
  ·rename_i a b' hu
   cases h
   simp [Op.equalIn, run_underlying hu]
  ·rename_i fs xs ys hu
   cases hs : P.stoodInHeld t with
   | true => rw [hs] at h; cases h
   | false =>
    rw [hs] at h
    have hf : P.fieldsOf t = fs := by simp [Program.fieldsOf, hu]
    rw [run_equalIn_struct (P := P) w d t xs ys (by rw [hf]; exact hu) hs, hf]
    exact Ow (Ta d) fs.toList h w
  ·cases h
theorem Adf {t : TypeId} {x y : Operand} {xs ys : Array Value} {b : Bool} (hg : P.eqGuardType P.depth t = false) (h : eqVB P 10000 t (.agg xs) (.agg ys) = some b) : Ao P (eqS .neq t x y (.agg xs) (.agg ys)) (.bool (!b)) := fun w => by
 simp only [eqS, Sem.run_bind, run_eqGuard_agg w .neq t x y xs ys hg, Result.andThen_ok, run_neq_struct, Ta 10000 h]
end
end Go.Sx
