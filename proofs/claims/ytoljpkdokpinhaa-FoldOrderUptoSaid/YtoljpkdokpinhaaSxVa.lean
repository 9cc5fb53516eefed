/- Values of aggregates and tables, in lists. Conditions: none. -/
import Derived.Test.YtoljpkdokpinhaaSxFh
import Derived.Test.YtoljpkdokpinhaaSxFc
import Derived.Test.YtoljpkdokpinhaaSxR
import Derived.Test.YtoljpkdokpinhaaSxSt
namespace Go.Sx
set_option linter.unusedSimpArgs false
set_option linter.unusedVariables false

structure ValV where
  has : Bool
  bits : Int
deriving DecidableEq
def val0 : ValV := ⟨false, 0⟩
def ValV.Fits (v : ValV) : Prop := 0 ≤ v.bits ∧ v.bits < u64m
@[reducible] def ValV.v (v : ValV) : Value := .agg #[.bool v.has, .int .u64 v.bits]
def PairV.val (x : PairV) : ValV := ⟨x.has, x.bits⟩
def pairOf (k : Int) (v : ValV) : PairV := ⟨k, v.has, v.bits⟩

def knownB (kind : Int) : Bool := decide (1 ≤ kind ∧ kind ≤ 4)
def ofV (kind : Int) (x : Nat) : ValV := if kind = 1 then ⟨true, 1⟩ else if kind = 2 then ⟨true, IntKind.u64.wrap (wholeF x)⟩ else if kind = 3 ∨ kind = 4 then ⟨true, (canonF x : Int)⟩ else val0
def fitV (kind : Int) (v : ValV) : ValV := if knownB kind = false ∨ v.has = false then val0 else if kind = 3 ∨ kind = 4 then ofV kind v.bits.toNat else v
def leastF (a b : Nat) : Nat := canonF (if ordN a b > 0 then b else a)
def mostF (a b : Nat) : Nat := canonF (if ordN a b < 0 then b else a)
def joinV (kind : Int) (a b : ValV) : ValV :=
  if a.has = false then b else if b.has = false then a else if kind = 3 then ofV 3 (leastF a.bits.toNat b.bits.toNat) else if kind = 4 then ofV 4 (mostF a.bits.toNat b.bits.toNat) else ⟨true, IntKind.u64.wrap (a.bits + b.bits)⟩
def mergeV (kind : Int) (a b : ValV) : ValV := joinV kind (fitV kind a) (fitV kind b)

theorem wrap_fits (n : Int) : 0 ≤ IntKind.u64.wrap n ∧ IntKind.u64.wrap n < u64m := by rw [IntKind.wrap_u64]; simp only [u64m]; omega
theorem ofV_fits {kind : Int} {x : Nat} (hx : x < 18446744073709551616) : (ofV kind x).Fits := by
  unfold ofV ValV.Fits
  have := canonF_lt hx
  split
  · exact ⟨by decide, by decide⟩
  split
  · exact wrap_fits _
  split
  · simp only [u64m]; omega
  · exact ⟨by decide, by decide⟩
theorem bits_lt {v : ValV} (h : v.Fits) : v.bits.toNat < 18446744073709551616 := by
  obtain ⟨h1, h2⟩ := h
  simp only [u64m] at h2; omega
theorem fitV_fits {kind : Int} {v : ValV} (h : v.Fits) : (fitV kind v).Fits := by
  unfold fitV
  split
  · exact ⟨by decide, by decide⟩
  split
  · exact ofV_fits (bits_lt h)
  · exact h
theorem leastF_lt {a b : Nat} (ha : a < 18446744073709551616) (hb : b < 18446744073709551616) : leastF a b < 18446744073709551616 := by
  unfold leastF; split
  · exact canonF_lt hb
  · exact canonF_lt ha
theorem mostF_lt {a b : Nat} (ha : a < 18446744073709551616) (hb : b < 18446744073709551616) : mostF a b < 18446744073709551616 := by
  unfold mostF; split
  · exact canonF_lt hb
  · exact canonF_lt ha
theorem joinV_fits {kind : Int} {a b : ValV} (ha : a.Fits) (hb : b.Fits) : (joinV kind a b).Fits := by
  unfold joinV
  split
  · exact hb
  split
  · exact ha
  split
  · exact ofV_fits (leastF_lt (bits_lt ha) (bits_lt hb))
  split
  · exact ofV_fits (mostF_lt (bits_lt ha) (bits_lt hb))
  · exact wrap_fits _
theorem mergeV_fits {kind : Int} {a b : ValV} (ha : a.Fits) (hb : b.Fits) : (mergeV kind a b).Fits := joinV_fits (fitV_fits ha) (fitV_fits hb)

theorem ofV_has {kind : Int} {x : Nat} (h : knownB kind = true) : (ofV kind x).has = true := by
  unfold knownB at h
  simp only [decide_eq_true_eq] at h
  unfold ofV
  split
  · rfl
  split
  · rfl
  rw [if_pos (by omega)]
theorem fit_of {kind : Int} {x : Nat} : fitV kind (ofV kind x) = ofV kind x := by
  unfold fitV
  cases hk : knownB kind
  · rw [if_pos (.inl rfl)]
    unfold knownB at hk
    simp only [decide_eq_false_iff_not] at hk
    unfold ofV; rw [if_neg (by omega), if_neg (by omega), if_neg (by omega)]
  · rw [if_neg (by rw [ofV_has hk]; simp)]
    split
    · rename_i h
      have e : ofV kind x = ⟨true, (canonF x : Int)⟩ := by unfold ofV; rw [if_neg (by omega), if_neg (by omega), if_pos h]
      rw [e]
      show ofV kind ((canonF x : Nat) : Int).toNat = _
      rw [Int.toNat_natCast]
      unfold ofV; rw [if_neg (by omega), if_neg (by omega), if_pos h, canonF_canon]
    · rfl
theorem fit_fit {kind : Int} {v : ValV} : fitV kind (fitV kind v) = fitV kind v := by
  by_cases h1 : knownB kind = false ∨ v.has = false
  · have e : fitV kind v = val0 := by unfold fitV; rw [if_pos h1]
    rw [e]; unfold fitV; rw [if_pos (.inr rfl)]
  · by_cases h2 : kind = 3 ∨ kind = 4
    · have e : fitV kind v = ofV kind v.bits.toNat := by unfold fitV; rw [if_neg h1, if_pos h2]
      rw [e, fit_of]
    · have e : fitV kind v = v := by unfold fitV; rw [if_neg h1, if_neg h2]
      rw [e, e]
theorem fit_zero {kind : Int} : fitV kind val0 = val0 := by unfold fitV; rw [if_pos (.inr rfl)]
theorem merge_zero {kind : Int} {b : ValV} : mergeV kind val0 b = fitV kind b := by unfold mergeV joinV; rw [fit_zero, if_pos (show val0.has = false from rfl)]
theorem merge_fit {kind : Int} {a b : ValV} : mergeV kind (fitV kind a) b = mergeV kind a b := by unfold mergeV; rw [fit_fit]

/-! ### tables -/
/-- the values of keys, in the order of their first stores -/
abbrev Tab : Type := List (Int × ValV)
def putT (kind : Int) (m : Tab) (k : Int) (v : ValV) : Tab := setM m k (mergeV kind ((getM m k).getD val0) v)
/-- a map's pairs, in the keys' order -/
def tableT (m : Tab) : List PairV := (sortL (m.map (·.1))).map fun k => pairOf k ((getM m k).getD val0)
def batchT (list : List OpV) (kind : Int) (m : Tab × Int) : List RecV → Tab × Int
  | [] => m
  | r :: rs => batchT list kind (if (runB list r).2 = 1 then (putT kind m.1 (runB list r).1.key (ofV kind (runB list r).1.val), m.2) else if (runB list r).2 = 3 then (m.1, m.2 + 1) else m) rs
def addT (kind : Int) (m : Tab) (l : List PairV) : Tab := l.foldl (fun m p => putT kind m p.key p.val) m
def soundB (l : List PairV) : Bool := decide ((∀ x ∈ l, x.has = true) ∧ (l.map (·.key)).Pairwise (· < ·))
def findT (l : List PairV) (k : Int) : ValV := match l.find? (fun p => p.key == k) with | some p => p.val | none => val0

/-- two tables with the same keys and values are one -/
theorem pairs_ext : ∀ {l r : List PairV}, (l.map (·.key)).Pairwise (· < ·) → (r.map (·.key)).Pairwise (· < ·) → (∀ x, x ∈ l ↔ x ∈ r) → l = r
  | [], [], _, _, _ => rfl
  | [], y :: r, _, _, h => absurd ((h y).2 (by simp)) (by simp)
  | x :: l, [], _, _, h => absurd ((h x).1 (by simp)) (by simp)
  | x :: l, y :: r, hl, hr, h => by
    rw [List.map_cons, List.pairwise_cons] at hl hr
    have kl : ∀ z ∈ l, x.key < z.key := fun z hz => hl.1 _ (List.mem_map_of_mem hz)
    have kr : ∀ z ∈ r, y.key < z.key := fun z hz => hr.1 _ (List.mem_map_of_mem hz)
    have hxy : x = y := by
      rcases List.mem_cons.1 ((h x).1 (by simp)) with e | h1
      · exact e
      · rcases List.mem_cons.1 ((h y).2 (by simp)) with e | h2
        · exact e.symm
        · have := kl y h2; have := kr x h1; omega
    subst hxy
    congr 1
    refine pairs_ext hl.2 hr.2 fun z => ⟨fun hz => ?_, fun hz => ?_⟩
    · rcases List.mem_cons.1 ((h z).1 (by simp [hz])) with e | h'
      · subst e; exact absurd (kl z hz) (by omega)
      · exact h'
    · rcases List.mem_cons.1 ((h z).2 (by simp [hz])) with e | h'
      · subst e; exact absurd (kr z hz) (by omega)
      · exact h'
/-- a rising list of pairs holds what a map holds -/
structure Same (m : Tab) (t : List PairV) : Prop where
  nodup : (m.map (·.1)).Nodup
  rise : (t.map (·.key)).Pairwise (· < ·)
  mem : ∀ k v, pairOf k v ∈ t ↔ getM m k = some v
theorem getM_mem {m : Tab} (hn : (m.map (·.1)).Nodup) {k : Int} {v : ValV} : getM m k = some v ↔ (k, v) ∈ m := by
  unfold getM
  induction m with
  | nil => simp
  | cons y r ih =>
    rw [List.map_cons, List.nodup_cons] at hn
    rw [List.find?_cons, List.mem_cons]
    by_cases h : y.1 = k
    · subst h
      simp only [beq_self_eq_true]
      constructor
      · intro h; simp at h; left; rw [← h]
      · rintro (h | h)
        · rw [← h]; rfl
        · exact absurd (List.mem_map_of_mem (f := (·.1)) h) hn.1
    · rw [show (y.1 == k) = false from by simpa using h]
      simp only
      rw [ih hn.2]
      constructor
      · exact .inr
      · rintro (h' | h')
        · rw [← h'] at h; exact absurd rfl h
        · exact h'
theorem getM_key {m : Tab} {k : Int} : (getM m k).isSome = true ↔ k ∈ m.map (·.1) := by
  unfold getM
  rw [Option.isSome_map, List.find?_isSome]
  constructor
  · rintro ⟨x, hx, he⟩
    simp only [beq_iff_eq] at he
    exact he ▸ List.mem_map_of_mem (f := (·.1)) hx
  · intro h
    obtain ⟨x, hx, he⟩ := List.mem_map.1 h
    exact ⟨x, hx, by simpa using he⟩
theorem pairOf_val (x : PairV) : pairOf x.key x.val = x := rfl
theorem table_same {m : Tab} (hn : (m.map (·.1)).Nodup) : Same m (tableT m) := by
  have hk : (tableT m).map (·.key) = sortL (m.map (·.1)) := by
    unfold tableT
    rw [List.map_map]
    have : ((fun x : PairV => x.key) ∘ fun k => pairOf k ((getM m k).getD val0)) = id := by funext k; rfl
    rw [this, List.map_id]
  refine ⟨hn, by rw [hk]; exact sortL_strict hn, fun k v => ?_⟩
  unfold tableT
  rw [List.mem_map]
  constructor
  · rintro ⟨k', hk', he⟩
    have e1 : k' = k := congrArg PairV.key he
    subst e1
    have hs := getM_key.2 (sortL_mem.1 hk')
    obtain ⟨v', hv'⟩ := Option.isSome_iff_exists.1 hs
    rw [hv'] at he ⊢
    have h2 : v'.has = v.has := congrArg PairV.has he
    have h3 : v'.bits = v.bits := congrArg PairV.bits he
    have : v' = v := by cases v'; cases v; simp_all
    rw [this]
  · intro h
    refine ⟨k, sortL_mem.2 (getM_key.1 (by rw [h]; rfl)), by rw [h]; rfl⟩
theorem Same.eq {m : Tab} {t : List PairV} (h : Same m t) : t = tableT m := by
  have h2 := table_same h.nodup
  refine pairs_ext h.rise h2.rise fun x => ?_
  rw [← pairOf_val x, h.mem, h2.mem]
theorem Same.uniq {m m' : Tab} {t t' : List PairV} (h : Same m t) (h' : Same m' t') (e : ∀ k, getM m k = getM m' k) : t = t' := by
  refine pairs_ext h.rise h'.rise fun x => ?_
  rw [← pairOf_val x, h.mem, h'.mem, e]
theorem getM_set {m : Tab} (hn : (m.map (·.1)).Nodup) {k k' : Int} {v : ValV} : getM (setM m k v) k' = if k' = k then some v else getM m k' := by
  unfold setM getM
  by_cases h : m.any fun p => p.1 == k
  · rw [if_pos h]
    clear hn
    induction m with
    | nil => simp at h
    | cons y r ih =>
      rw [List.map_cons, List.find?_cons, List.find?_cons]
      by_cases hy : y.1 = k
      · subst hy
        simp only [beq_self_eq_true, if_true]
        by_cases hk : k' = y.1
        · subst hk; simp
        · have hk2 : ¬ y.1 = k' := fun e => hk e.symm
          rw [show (y.1 == k') = false from by simpa using hk2, if_neg hk]
          simp only
          congr 1
          rw [List.find?_map]
          have : ((fun p : Int × ValV => p.1 == k') ∘ fun p => if (p.1 == y.1) = true then (y.1, v) else p) = fun p => p.1 == k' := by
            funext p
            simp only [Function.comp]
            by_cases hp : p.1 = y.1
            · rw [if_pos (by simpa using hp)]; simp [hp]
            · rw [if_neg (by simpa using hp)]
          rw [this]
          cases hf : r.find? (fun p => p.1 == k') with
          | none => rfl
          | some p =>
            have := List.find?_some hf
            simp only [beq_iff_eq] at this
            simp only [Option.map_some]
            rw [if_neg (by simp; rw [this]; exact hk)]
      · have hr : (r.any fun p => p.1 == k) = true := by
          rw [List.any_cons, show (y.1 == k) = false from by simpa using hy] at h
          simpa using h
        rw [show (y.1 == k) = false from by simpa using hy]
        simp only [Bool.false_eq_true, if_false]
        by_cases hk : y.1 = k'
        · subst hk
          simp [hy]
        · rw [show (y.1 == k') = false from by simpa using hk]
          exact ih hr
  · rw [if_neg h]
    have hno : m.find? (fun p => p.1 == k) = none := by
      rw [List.find?_eq_none]
      intro x hx hh
      exact h (List.any_eq_true.2 ⟨x, hx, hh⟩)
    rw [List.find?_append]
    by_cases hk : k' = k
    · subst hk; rw [hno, if_pos rfl]; simp
    · rw [if_neg hk]
      have hk2 : ¬ k = k' := fun e => hk e.symm
      cases hf : m.find? (fun p => p.1 == k') with
      | none => simp [hk2]
      | some p => simp
end Go.Sx
