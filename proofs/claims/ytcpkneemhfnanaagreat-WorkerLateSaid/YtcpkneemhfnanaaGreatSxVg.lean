import Derived.Test.YtcpkneemhfnanaaGreatSxFh
import Derived.Test.YtcpkneemhfnanaaGreatSxFc
import Derived.Test.YtcpkneemhfnanaaGreatSxR
import Derived.Test.YtcpkneemhfnanaaGreatSxSt
/- Values of aggregates and tables, in lists. Conditions: none. -/
namespace Go.Sx
set_option linter.unusedSimpArgs false
set_option linter.unusedVariables false

structure ValV where
  has : Bool
  bits : Int
deriving DecidableEq
def val0 : ValV := ⟨false, 0⟩
def ValV.Fits (v : ValV) : Prop := 0 ≤ v.bits ∧ v.bits < u64m
@[reducible] def ValV.v (v : ValV) : Value := .agg #[.bool v.has, .int .u64 v.bits]
def PairV.val (x : PairV) : ValV := ⟨x.has, x.bits⟩
def pairOf (k : Int) (v : ValV) : PairV := ⟨k, v.has, v.bits⟩

def knownB (kind : Int) : Bool := decide (1 ≤ kind ∧ kind ≤ 4)
def ofV (kind : Int) (x : Nat) : ValV := if kind = 1 then ⟨true, 1⟩ else if kind = 2 then ⟨true, IntKind.u64.wrap (wholeF x)⟩ else if kind = 3 ∨ kind = 4 then ⟨true, (canonF x : Int)⟩ else val0
def fitV (kind : Int) (v : ValV) : ValV := if knownB kind = false ∨ v.has = false then val0 else if kind = 3 ∨ kind = 4 then ofV kind v.bits.toNat else v
def leastF (a b : Nat) : Nat := canonF (if ordN a b > 0 then b else a)
def mostF (a b : Nat) : Nat := canonF (if ordN a b < 0 then b else a)
def joinV (kind : Int) (a b : ValV) : ValV :=
  if a.has = false then b else if b.has = false then a else if kind = 3 then ofV 3 (leastF a.bits.toNat b.bits.toNat) else if kind = 4 then ofV 4 (mostF a.bits.toNat b.bits.toNat) else ⟨true, IntKind.u64.wrap (a.bits + b.bits)⟩
def mergeV (kind : Int) (a b : ValV) : ValV := joinV kind (fitV kind a) (fitV kind b)

theorem wrap_fits (n : Int) : 0 ≤ IntKind.u64.wrap n ∧ IntKind.u64.wrap n < u64m := by rw [IntKind.wrap_u64]; simp only [u64m]; omega
theorem ofV_fits {kind : Int} {x : Nat} (hx : x < 18446744073709551616) : (ofV kind x).Fits := by
  unfold ofV ValV.Fits
  have := canonF_lt hx
  split
  · exact ⟨by decide, by decide⟩
  split
  · exact wrap_fits _
  split
  · simp only [u64m]; omega
  · exact ⟨by decide, by decide⟩
theorem bits_lt {v : ValV} (h : v.Fits) : v.bits.toNat < 18446744073709551616 := by
  obtain ⟨h1, h2⟩ := h
  simp only [u64m] at h2; omega
theorem fitV_fits {kind : Int} {v : ValV} (h : v.Fits) : (fitV kind v).Fits := by
  unfold fitV
  split
  · exact ⟨by decide, by decide⟩
  split
  · exact ofV_fits (bits_lt h)
  · exact h
theorem leastF_lt {a b : Nat} (ha : a < 18446744073709551616) (hb : b < 18446744073709551616) : leastF a b < 18446744073709551616 := by
  unfold leastF; split
  · exact canonF_lt hb
  · exact canonF_lt ha
theorem mostF_lt {a b : Nat} (ha : a < 18446744073709551616) (hb : b < 18446744073709551616) : mostF a b < 18446744073709551616 := by
  unfold mostF; split
  · exact canonF_lt hb
  · exact canonF_lt ha
theorem joinV_fits {kind : Int} {a b : ValV} (ha : a.Fits) (hb : b.Fits) : (joinV kind a b).Fits := by
  unfold joinV
  split
  · exact hb
  split
  · exact ha
  split
  · exact ofV_fits (leastF_lt (bits_lt ha) (bits_lt hb))
  split
  · exact ofV_fits (mostF_lt (bits_lt ha) (bits_lt hb))
  · exact wrap_fits _
theorem mergeV_fits {kind : Int} {a b : ValV} (ha : a.Fits) (hb : b.Fits) : (mergeV kind a b).Fits := joinV_fits (fitV_fits ha) (fitV_fits hb)

theorem ofV_has {kind : Int} {x : Nat} (h : knownB kind = true) : (ofV kind x).has = true := by
  unfold knownB at h
  simp only [decide_eq_true_eq] at h
  unfold ofV
  split
  · rfl
  split
  · rfl
  rw [if_pos (by omega)]
theorem fit_of {kind : Int} {x : Nat} : fitV kind (ofV kind x) = ofV kind x := by
  unfold fitV
  cases hk : knownB kind
  · rw [if_pos (.inl rfl)]
    unfold knownB at hk
    simp only [decide_eq_false_iff_not] at hk
    unfold ofV; rw [if_neg (by omega), if_neg (by omega), if_neg (by omega)]
  · rw [if_neg (by rw [ofV_has hk]; simp)]
    split
    · rename_i h
      have e : ofV kind x = ⟨true, (canonF x : Int)⟩ := by unfold ofV; rw [if_neg (by omega), if_neg (by omega), if_pos h]
      rw [e]
      show ofV kind ((canonF x : Nat) : Int).toNat = _
      rw [Int.toNat_natCast]
      unfold ofV; rw [if_neg (by omega), if_neg (by omega), if_pos h, canonF_canon]
    · rfl
theorem fit_zero {kind : Int} : fitV kind val0 = val0 := by unfold fitV; rw [if_pos (.inr rfl)]
/-! ### tables -/
/-- the values of keys, in the order of their first stores -/
abbrev Tab : Type := List (Int × ValV)
def putT (kind : Int) (m : Tab) (k : Int) (v : ValV) : Tab := setM m k (mergeV kind ((getM m k).getD val0) v)
/-- a map's pairs, in the keys' order -/
def tableT (m : Tab) : List PairV := (sortL (m.map (·.1))).map fun k => pairOf k ((getM m k).getD val0)
/-- two tables with the same keys and values are one -/
theorem pairs_ext : ∀ {l r : List PairV}, (l.map (·.key)).Pairwise (· < ·) → (r.map (·.key)).Pairwise (· < ·) → (∀ x, x ∈ l ↔ x ∈ r) → l = r
  | [], [], _, _, _ => rfl
  | [], y :: r, _, _, h => absurd ((h y).2 (by simp)) (by simp)
  | x :: l, [], _, _, h => absurd ((h x).1 (by simp)) (by simp)
  | x :: l, y :: r, hl, hr, h => by
    rw [List.map_cons, List.pairwise_cons] at hl hr
    have kl : ∀ z ∈ l, x.key < z.key := fun z hz => hl.1 _ (List.mem_map_of_mem hz)
    have kr : ∀ z ∈ r, y.key < z.key := fun z hz => hr.1 _ (List.mem_map_of_mem hz)
    have hxy : x = y := by
      rcases List.mem_cons.1 ((h x).1 (by simp)) with e | h1
      · exact e
      · rcases List.mem_cons.1 ((h y).2 (by simp)) with e | h2
        · exact e.symm
        · have := kl y h2; have := kr x h1; omega
    subst hxy
    congr 1
    refine pairs_ext hl.2 hr.2 fun z => ⟨fun hz => ?_, fun hz => ?_⟩
    · rcases List.mem_cons.1 ((h z).1 (by simp [hz])) with e | h'
      · subst e; exact absurd (kl z hz) (by omega)
      · exact h'
    · rcases List.mem_cons.1 ((h z).2 (by simp [hz])) with e | h'
      · subst e; exact absurd (kr z hz) (by omega)
      · exact h'
/-- a rising list of pairs holds what a map holds -/
structure Same (m : Tab) (t : List PairV) : Prop where
  nodup : (m.map (·.1)).Nodup
  rise : (t.map (·.key)).Pairwise (· < ·)
  mem : ∀ k v, pairOf k v ∈ t ↔ getM m k = some v
theorem getM_key {m : Tab} {k : Int} : (getM m k).isSome = true ↔ k ∈ m.map (·.1) := by
  unfold getM
  rw [Option.isSome_map, List.find?_isSome]
  constructor
  · rintro ⟨x, hx, he⟩
    simp only [beq_iff_eq] at he
    exact he ▸ List.mem_map_of_mem (f := (·.1)) hx
  · intro h
    obtain ⟨x, hx, he⟩ := List.mem_map.1 h
    exact ⟨x, hx, by simpa using he⟩
theorem pairOf_val (x : PairV) : pairOf x.key x.val = x := rfl
theorem table_same {m : Tab} (hn : (m.map (·.1)).Nodup) : Same m (tableT m) := by
  have hk : (tableT m).map (·.key) = sortL (m.map (·.1)) := by
    unfold tableT
    rw [List.map_map]
    have : ((fun x : PairV => x.key) ∘ fun k => pairOf k ((getM m k).getD val0)) = id := by funext k; rfl
    rw [this, List.map_id]
  refine ⟨hn, by rw [hk]; exact sortL_strict hn, fun k v => ?_⟩
  unfold tableT
  rw [List.mem_map]
  constructor
  · rintro ⟨k', hk', he⟩
    have e1 : k' = k := congrArg PairV.key he
    subst e1
    have hs := getM_key.2 (sortL_mem.1 hk')
    obtain ⟨v', hv'⟩ := Option.isSome_iff_exists.1 hs
    rw [hv'] at he ⊢
    have h2 : v'.has = v.has := congrArg PairV.has he
    have h3 : v'.bits = v.bits := congrArg PairV.bits he
    have : v' = v := by cases v'; cases v; simp_all
    rw [this]
  · intro h
    refine ⟨k, sortL_mem.2 (getM_key.1 (by rw [h]; rfl)), by rw [h]; rfl⟩
theorem Same.eq {m : Tab} {t : List PairV} (h : Same m t) : t = tableT m := by
  have h2 := table_same h.nodup
  refine pairs_ext h.rise h2.rise fun x => ?_
  rw [← pairOf_val x, h.mem, h2.mem]
end Go.Sx
/- Tables that are added: two rising lists merged hold what the map holds. Conditions: none. -/
namespace Go.Sx
set_option linter.unusedSimpArgs false
set_option linter.unusedVariables false

/-- the value of a key in a list, if any -/
def getP (l : List PairV) (k : Int) : Option ValV := (l.find? fun p => p.key == k).map (·.val)
/-! ### the map -/
end Go.Sx
/- A rising list of pairs with a part more. Conditions: none. -/
namespace Go.Sx
set_option linter.unusedSimpArgs false
set_option linter.unusedVariables false

end Go.Sx
/- Values of aggregates may be brought together in any order. Conditions: none. -/
namespace Go.Sx
set_option linter.unusedSimpArgs false
set_option linter.unusedVariables false

/-- a value in its one form, as wide as it may be -/
structure Form (kind : Int) (v : ValV) : Prop where
  fit : fitV kind v = v
  wide : v.Fits
theorem Form.zero {kind : Int} : Form kind val0 := ⟨fit_zero, by decide, by decide⟩
theorem Form.of {kind : Int} {x : Nat} (hx : x < 18446744073709551616) : Form kind (ofV kind x) := ⟨fit_of, ofV_fits hx⟩
theorem Form.bits {kind : Int} {v : ValV} (h : Form kind v) (hh : v.has = true) (hk : kind = 3 ∨ kind = 4) : canonF v.bits.toNat = v.bits.toNat ∧ v.bits.toNat < 18446744073709551616 ∧ v = ⟨true, (v.bits.toNat : Int)⟩ := by
  have hf := h.fit
  obtain ⟨w1, w2⟩ := h.wide
  have hb := bits_lt h.wide
  have hkn : knownB kind = true := by unfold knownB; rw [decide_eq_true_eq]; omega
  unfold fitV at hf
  rw [if_neg (by rw [hkn, hh]; simp), if_pos hk] at hf
  have e : ofV kind v.bits.toNat = ⟨true, (canonF v.bits.toNat : Int)⟩ := by unfold ofV; rw [if_neg (by omega), if_neg (by omega), if_pos hk]
  rw [e] at hf
  have h1 : ((canonF v.bits.toNat : Nat) : Int) = v.bits := congrArg ValV.bits hf
  refine ⟨by omega, hb, ?_⟩
  cases v
  simp only at hh w1 ⊢
  rw [hh]; congr 1; omega
theorem Form.empty {kind : Int} {v : ValV} (h : Form kind v) (hh : v.has = false) : v = val0 := by
  have hf := h.fit
  unfold fitV at hf
  rw [if_pos (.inr hh)] at hf
  exact hf.symm
end Go.Sx
/- What a batch holds, key by key. Conditions: none. -/
namespace Go.Sx
set_option linter.unusedSimpArgs false
set_option linter.unusedVariables false

def bOne (list : List OpV) (kind : Int) (m : Tab × Int) (r : RecV) : Tab × Int := if (runB list r).2 = 1 then (putT kind m.1 (runB list r).1.key (ofV kind (runB list r).1.val), m.2) else if (runB list r).2 = 3 then (m.1, IntKind.i64.wrap (m.2 + 1)) else m
def bAll (list : List OpV) (kind : Int) (rs : List RecV) : Tab × Int := rs.foldl (bOne list kind) ([], 0)
/-- the parts that the kept records make -/
def keptL (list : List OpV) (kind : Int) (rs : List RecV) : List (Int × ValV) := rs.filterMap fun r => if (runB list r).2 = 1 then some ((runB list r).1.key, ofV kind (runB list r).1.val) else none
theorem bAll_tab (list : List OpV) (kind : Int) : ∀ (rs : List RecV) (m : Tab × Int), (rs.foldl (bOne list kind) m).1 = (keptL list kind rs).foldl (fun m p => putT kind m p.1 p.2) m.1
  | [], m => rfl
  | r :: rs, m => by
    show (rs.foldl (bOne list kind) (bOne list kind m r)).1 = _
    rw [bAll_tab list kind rs]
    unfold keptL bOne
    rw [List.filterMap_cons]
    by_cases h1 : (runB list r).2 = 1
    · rw [if_pos h1, if_pos h1]; rfl
    · rw [if_neg h1, if_neg h1]
      by_cases h3 : (runB list r).2 = 3
      · rw [if_pos h3]
      · rw [if_neg h3]
def TabForm (kind : Int) (m : Tab) : Prop := (m.map (·.1)).Nodup ∧ ∀ k v, getM m k = some v → Form kind v
theorem TabForm.getD {kind : Int} {m : Tab} (h : TabForm kind m) (k : Int) : Form kind ((getM m k).getD val0) := by
  cases hg : getM m k with
  | none => exact Form.zero
  | some v => exact h.2 k v hg
/-! ### sums -/
end Go.Sx
/- A batch's table is sound, and no longer than the records. Conditions: none. -/
namespace Go.Sx
set_option linter.unusedSimpArgs false
set_option linter.unusedVariables false

theorem setM_lenV {m : Tab} {k : Int} {v : ValV} : (setM m k v).length ≤ m.length + 1 := by unfold setM; split <;> simp
theorem put_len {kind : Int} : ∀ (ks : List (Int × ValV)) (m : Tab), (ks.foldl (fun m p => putT kind m p.1 p.2) m).length ≤ m.length + ks.length
  | [], m => by simp
  | p :: ks, m => by
    have h1 := put_len (kind := kind) ks (putT kind m p.1 p.2)
    have h2 : (putT kind m p.1 p.2).length ≤ m.length + 1 := setM_lenV
    simp only [List.foldl_cons, List.length_cons] at h1 ⊢
    omega
theorem batch_len (list : List OpV) (kind : Int) (rs : List RecV) : (bAll list kind rs).1.length ≤ rs.length := by
  unfold bAll
  rw [bAll_tab]
  have h1 := put_len (kind := kind) (keptL list kind rs) ([] : Tab)
  have h2 : (keptL list kind rs).length ≤ rs.length := List.length_filterMap_le _ _
  simp only [List.length_nil] at h1
  show ((keptL list kind rs).foldl (fun m p => putT kind m p.1 p.2) []).length ≤ rs.length
  omega
theorem tableT_lenV (m : Tab) : (tableT m).length = m.length := by unfold tableT; rw [List.length_map, (sortL_perm _).length_eq, List.length_map]
end Go.Sx
/- Batches cut in two, thinned out, counted, key by key. Conditions: none. -/
namespace Go.Sx

/-! ### keys alone -/
/-! ### counts -/
/-! ### one key -/
end Go.Sx
