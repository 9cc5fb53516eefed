/- A pipeline of steps over records, in lists. Conditions: none. -/
import Derived.Test.YtoljpkdokpinhaaSxFb
import Derived.Test.YtoljpkdokpinhaaSxO
namespace Go.Sx
set_option linter.unusedSimpArgs false
set_option linter.unusedVariables false

/-- a record, a step -/
structure RecV where
  key : Int
  val : Nat
deriving DecidableEq
structure OpV where
  kind : Int
  n : Int
  x : Nat
deriving DecidableEq
def Enc.rcd : Enc RecV := ⟨2, fun r => [.int .u64 r.key, .float .f64 r.val], fun _ => rfl, by decide, fun x v h => by simp at h; rcases h with rfl | rfl <;> rfl⟩
def Enc.op3 : Enc OpV := ⟨3, fun o => [.int .i64 o.kind, .int .i64 o.n, .float .f64 o.x], fun _ => rfl, by decide, fun x v h => by simp at h; rcases h with rfl | rfl | rfl <;> rfl⟩
@[reducible] def RecV.v (r : RecV) : Value := .agg #[.int .u64 r.key, .float .f64 r.val]
@[reducible] def OpV.v (o : OpV) : Value := .agg #[.int .i64 o.kind, .int .i64 o.n, .float .f64 o.x]
def RecV.Fits (r : RecV) : Prop := (0 ≤ r.key ∧ r.key < u64m) ∧ r.val < 18446744073709551616
def OpV.Fits (o : OpV) : Prop := (-9223372036854775808 ≤ o.kind ∧ o.kind < 9223372036854775808) ∧ (-9223372036854775808 ≤ o.n ∧ o.n < 9223372036854775808) ∧ o.x < 18446744073709551616

def isStepB (o : OpV) : Bool := if o.kind = 7 then decide (-2200 ≤ o.n ∧ o.n ≤ 2200) else if o.kind = 11 then decide (1 ≤ o.n) else decide (1 ≤ o.kind ∧ o.kind ≤ 12)
/-- whether a list is a pipeline -/
def checkB (l : List OpV) : Bool := decide (l.length ≤ 8) && l.all isStepB

/-- the value that a step makes of a value, in its one form, and whether it keeps it; none: it traps -/
def turnB (o : OpV) (x : Nat) : Option (Nat × Bool) :=
  if o.kind = 1 then some (x, ordB x o.x == some .lt)
  else if o.kind = 2 then some (x, ordB x o.x == some .gt)
  else if o.kind = 3 then some (x, !nanB x)
  else if o.kind = 4 then some (copyF x (if copyF 4607182418800017408 x < 9223372036854775808 then copyF 4607182418800017408 x + 9223372036854775808 else copyF 4607182418800017408 x - 9223372036854775808), true)
  else if o.kind = 5 then some (x % 9223372036854775808, true)
  else if o.kind = 6 then some (floorF x, true)
  else if o.kind = 7 then some (scaleF x o.n, true)
  else if o.kind = 8 then some (divF 4607182418800017408 x, true)
  else if o.kind = 9 then (if nanB x || infB x then none else some (x, true))
  else if o.kind = 10 then (if wholeF x = 0 then none else some (numOf (IntKind.i64.wrap (Int.tdiv o.n (wholeF x))), true))
  else some (x, true)
def keyB (o : OpV) (k : Int) (x : Nat) : Int :=
  if o.kind = 11 then Int.tmod k (IntKind.u64.wrap o.n) else if o.kind = 12 then IntKind.u64.wrap (IntKind.u64.wrap (Int.tmod k 4611686018427387904 * 4) + sideF x) else k
/-- a step of a record: fate 1 kept, 2 dropped, 3 trapped -/
def applyB (o : OpV) (r : RecV) : Option (RecV × Bool) :=
  match turnB o (canonF r.val) with
  | none => none
  | some (y, b) => some (⟨keyB o r.key (canonF r.val), canonF y⟩, b)
def rec0 : RecV := ⟨0, 0⟩
def thruB : List OpV → RecV → RecV × Int
  | [], r => (r, 1)
  | o :: l, r => match applyB o r with
    | none => (rec0, 3)
    | some (_, false) => (rec0, 2)
    | some (r', true) => thruB l r'
def runB (l : List OpV) (r : RecV) : RecV × Int := if checkB l then thruB l ⟨r.key, canonF r.val⟩ else (rec0, 0)
def keyOfB (l : List OpV) (r : RecV) : Int × Bool := ((runB l r).1.key, decide ((runB l r).2 = 1))

theorem sideF_bound (x : Nat) : 0 ≤ sideF x ∧ sideF x ≤ 3 := by
  unfold sideF; repeat' split
  all_goals omega
theorem normF_lt' {x : Nat} (hx : x < 18446744073709551616) : (normF x).1 < 18446744073709551616 := by
  unfold normF; split
  · exact mulF_lt _ _
  · exact hx
theorem ldexpF_lt {x : Nat} {e : Int} (hx : x < 18446744073709551616) : ldexpF x e < 18446744073709551616 := by
  have hn := normF_lt' hx
  unfold ldexpF
  split
  · exact hx
  split
  · exact hx
  split
  · exact hx
  generalize (normF x).1 = fr at hn ⊢
  simp only
  split
  · exact copyF_lt hn
  split
  · split <;> decide
  split
  · exact mulF_lt _ _
  · exact mulF_lt _ _
theorem scaleF_lt {x : Nat} {n : Int} (hx : x < 18446744073709551616) : scaleF x n < 18446744073709551616 := canonF_lt (ldexpF_lt hx)
theorem flip_lt {y : Nat} (h : y < 18446744073709551616) : (if y < 9223372036854775808 then y + 9223372036854775808 else y - 9223372036854775808) < 18446744073709551616 := by split <;> omega
theorem turnB_lt {o : OpV} {x y : Nat} {b : Bool} (hx : x < 18446744073709551616) (h : turnB o x = some (y, b)) : y < 18446744073709551616 := by
  have some_out : ∀ {a c : Nat} {p q : Bool}, some (a, p) = some (c, q) → a = c := fun h => (Prod.mk.inj (Option.some.inj h)).1
  unfold turnB at h
  split at h
  · rw [← some_out h]; exact hx
  split at h
  · rw [← some_out h]; exact hx
  split at h
  · rw [← some_out h]; exact hx
  split at h
  · rw [← some_out h]; exact copyF_lt (flip_lt (copyF_lt hx))
  split at h
  · rw [← some_out h]; omega
  split at h
  · rw [← some_out h]; exact floorF_lt _
  split at h
  · rw [← some_out h]; exact scaleF_lt hx
  split at h
  · rw [← some_out h]; exact divF_lt _ _
  split at h
  · split at h
    · cases h
    · rw [← some_out h]; exact hx
  split at h
  · split at h
    · cases h
    · rw [← some_out h]; exact numOf_lt _
  · rw [← some_out h]; exact hx
theorem keyB_fits {o : OpV} {k : Int} {x : Nat} (hs : isStepB o = true) (hn : o.n < 9223372036854775808) (hk : 0 ≤ k ∧ k < u64m) : 0 ≤ keyB o k x ∧ keyB o k x < u64m := by
  unfold keyB
  split
  · rename_i h
    unfold isStepB at hs
    rw [if_neg (by omega), if_pos h] at hs
    simp only [decide_eq_true_eq] at hs
    have hw : IntKind.u64.wrap o.n = o.n := by rw [IntKind.wrap_u64]; omega
    rw [hw]
    refine ⟨Int.tmod_nonneg _ hk.1, ?_⟩
    have := Int.tmod_lt_of_pos k (show 0 < o.n by omega)
    simp only [u64m]; omega
  · split
    · rw [IntKind.wrap_u64]
      simp only [u64m]
      omega
    · exact hk
theorem applyB_fits {o : OpV} {r r' : RecV} {b : Bool} (hs : isStepB o = true) (ho : o.Fits) (hr : r.Fits) (h : applyB o r = some (r', b)) : r'.Fits := by
  unfold applyB at h
  split at h
  · cases h
  · rename_i y b' ht
    simp only [Option.some.injEq, Prod.mk.injEq] at h
    obtain ⟨rfl, -⟩ := h
    exact ⟨keyB_fits hs ho.2.1.2 hr.1, canonF_lt (turnB_lt (canonF_lt hr.2) ht)⟩
theorem checkB_step {l : List OpV} (h : checkB l = true) : l.length ≤ 8 ∧ ∀ o ∈ l, isStepB o = true := by
  unfold checkB at h
  simp only [Bool.and_eq_true, decide_eq_true_eq, List.all_eq_true] at h
  exact h
theorem thruB_fits : ∀ {l : List OpV} {r : RecV}, (∀ o ∈ l, isStepB o = true ∧ o.Fits) → r.Fits → (thruB l r).1.Fits
  | [], r, _, hr => hr
  | o :: l, r, hl, hr => by
    unfold thruB
    split
    · exact ⟨⟨by decide, by decide⟩, by decide⟩
    · exact ⟨⟨by decide, by decide⟩, by decide⟩
    · rename_i r' h
      exact thruB_fits (fun o h => hl o (by simp [h])) (applyB_fits (hl o (by simp)).1 (hl o (by simp)).2 hr h)
theorem runB_fits {l : List OpV} {r : RecV} (hl : ∀ o ∈ l, o.Fits) (hr : r.Fits) : (runB l r).1.Fits := by
  unfold runB
  split
  · rename_i h
    exact thruB_fits (fun o ho => ⟨(checkB_step h).2 o ho, hl o ho⟩) ⟨hr.1, canonF_lt hr.2⟩
  · exact ⟨⟨by decide, by decide⟩, by decide⟩
end Go.Sx
namespace Go.Sx
theorem Row.setAll' {w : World} {g : Nat} {e : TypeId} {cs vs : List Value} (h : Row w g e cs) (hl : vs.length = cs.length) :
    RoomAt w ⟨g, 0, none⟩ 0 vs ∧ Row (setCells w ⟨g, 0, none⟩ 0 vs) g e vs ∧ Upd (fun b => b = g) w (setCells w ⟨g, 0, none⟩ 0 vs) := by
  obtain ⟨cs', h1, h2, h3, h4⟩ := setCells_row (vs := vs) (o := 0) (i := 0) h
  refine ⟨roomAt_row h (by simp; omega), ?_, h4⟩
  unfold Row
  rw [h1]
  have : cs' = vs.toArray := by
    apply Array.ext_getElem?
    intro j
    rw [h3 j]
    simp only [Nat.zero_add, Nat.sub_zero, List.size_toArray]
    by_cases hj : j < vs.length
    · rw [if_pos ⟨Nat.zero_le _, hj, by omega⟩]; simp
    · rw [if_neg (by omega)]
      rw [Array.getElem?_eq_none (by simp; omega), Array.getElem?_eq_none (by simp; omega)]
  rw [this]
theorem Row.cellsAt {w : World} {g : Nat} {e : TypeId} {cs : List Value} (h : Row w g e cs) : CellsAt w ⟨g, 0, none⟩ 0 cs :=
  cellsAt_of fun j v hv => by
    rw [Nat.zero_add]
    show w.cell? (Addr.add ⟨g, 0, none⟩ j) = _
    rw [add_mk, Nat.zero_add, h.cell]; exact hv
end Go.Sx
