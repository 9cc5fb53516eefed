/- Floats of 64 bits as numbers: comparisons, sums and products, whole parts. Conditions: none. -/
import Derived.Test.YtbmmaibbiahkkaaGreatDoorSxN
import Derived.Laws.FloatArith
import GoSem.Extern.MathFloor
import Derived.Laws.Cover2
import Derived.Test.YtbmmaibbiahkkaaGreatDoorSxO
namespace Go.Sx
set_option linter.unusedSimpArgs false
set_option linter.unusedVariables false
section
variable {P : Program}
end
def c63 : Nat := 4890909195324358656
section
variable {P : Program}
end
structure RecV where
 key : Int
 val : Nat
deriving DecidableEq
structure OpV where
 kind : Int
 n : Int
 x : Nat
deriving DecidableEq
def Enc.op3 : Enc OpV := ⟨3, fun o => [.int .i64 o.kind, .int .i64 o.n, .float .f64 o.x], fun _ => rfl, by decide, fun x v h => by simp at h; rcases h with rfl | rfl | rfl <;> rfl⟩
@[reducible] def RecV.v (r : RecV) : Value := .agg #[.int .u64 r.key, .float .f64 r.val]
@[reducible] def OpV.v (o : OpV) : Value := .agg #[.int .i64 o.kind, .int .i64 o.n, .float .f64 o.x]
def RecV.Fits (r : RecV) : Prop := (0 ≤ r.key ∧ r.key < u64m) ∧ r.val < 18446744073709551616
def OpV.Fits (o : OpV) : Prop := (-9223372036854775808 ≤ o.kind ∧ o.kind < 9223372036854775808) ∧ (-9223372036854775808 ≤ o.n ∧ o.n < 9223372036854775808) ∧ o.x < 18446744073709551616
def Pn (o : OpV) : Bool := if o.kind = 7 then decide (-2200 ≤ o.n ∧ o.n ≤ 2200) else if o.kind = 11 then decide (1 ≤ o.n) else decide (1 ≤ o.kind ∧ o.kind ≤ 12)
def Qe (l : List OpV) : Bool := decide (l.length ≤ 8) && l.all Pn
end Go.Sx
namespace Go.Sx
theorem Row.setAll' {w : World} {g : Nat} {e : TypeId} {cs vs : List Value} (h : Row w g e cs) (hl : vs.length = cs.length) :
  An w ⟨g, 0, none⟩ 0 vs ∧ Row (setCells w ⟨g, 0, none⟩ 0 vs) g e vs ∧ Upd (fun b => b = g) w (setCells w ⟨g, 0, none⟩ 0 vs) := by
 obtain ⟨cs', h1, h2, h3, h4⟩ := Ea (vs := vs) (o := 0) (i := 0) h
 refine ⟨Eb h (by simp; omega), ?_, h4⟩
 unfold Row
 rw [h1]
 have : cs' = vs.toArray := by
  apply Array.ext_getElem?
  intro j
  rw [h3 j]
  simp only [Nat.zero_add, Nat.sub_zero, List.size_toArray]
  by_cases hj : j < vs.length
  ·rw [if_pos ⟨Nat.zero_le _, hj, by omega⟩]; simp
  ·rw [if_neg (by omega)]
   rw [Array.getElem?_eq_none (by simp; omega), Array.getElem?_eq_none (by simp; omega)]
 rw [this]
theorem Row.cellsAt {w : World} {g : Nat} {e : TypeId} {cs : List Value} (h : Row w g e cs) : Ah w ⟨g, 0, none⟩ 0 cs :=
 D9 fun j v hv => by
  rw [Nat.zero_add]
  show w.cell? (Addr.add ⟨g, 0, none⟩ j) = _
  rw [Bj, Nat.zero_add, h.cell]; exact hv
end Go.Sx
