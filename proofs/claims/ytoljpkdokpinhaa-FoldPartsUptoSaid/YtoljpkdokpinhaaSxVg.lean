import Derived.Test.YtoljpkdokpinhaaSxFh
import Derived.Test.YtoljpkdokpinhaaSxFc
import Derived.Test.YtoljpkdokpinhaaSxR
import Derived.Test.YtoljpkdokpinhaaSxSt
/- Values of aggregates and tables, in lists. Conditions: none. -/
namespace Go.Sx
set_option linter.unusedSimpArgs false
set_option linter.unusedVariables false

structure ValV where
  has : Bool
  bits : Int
deriving DecidableEq
def val0 : ValV := ⟨false, 0⟩
def ValV.Fits (v : ValV) : Prop := 0 ≤ v.bits ∧ v.bits < u64m
@[reducible] def ValV.v (v : ValV) : Value := .agg #[.bool v.has, .int .u64 v.bits]
def PairV.val (x : PairV) : ValV := ⟨x.has, x.bits⟩
def pairOf (k : Int) (v : ValV) : PairV := ⟨k, v.has, v.bits⟩

def knownB (kind : Int) : Bool := decide (1 ≤ kind ∧ kind ≤ 4)
def ofV (kind : Int) (x : Nat) : ValV := if kind = 1 then ⟨true, 1⟩ else if kind = 2 then ⟨true, IntKind.u64.wrap (wholeF x)⟩ else if kind = 3 ∨ kind = 4 then ⟨true, (canonF x : Int)⟩ else val0
def fitV (kind : Int) (v : ValV) : ValV := if knownB kind = false ∨ v.has = false then val0 else if kind = 3 ∨ kind = 4 then ofV kind v.bits.toNat else v
def leastF (a b : Nat) : Nat := canonF (if ordN a b > 0 then b else a)
def mostF (a b : Nat) : Nat := canonF (if ordN a b < 0 then b else a)
def joinV (kind : Int) (a b : ValV) : ValV :=
  if a.has = false then b else if b.has = false then a else if kind = 3 then ofV 3 (leastF a.bits.toNat b.bits.toNat) else if kind = 4 then ofV 4 (mostF a.bits.toNat b.bits.toNat) else ⟨true, IntKind.u64.wrap (a.bits + b.bits)⟩
def mergeV (kind : Int) (a b : ValV) : ValV := joinV kind (fitV kind a) (fitV kind b)

theorem wrap_fits (n : Int) : 0 ≤ IntKind.u64.wrap n ∧ IntKind.u64.wrap n < u64m := by rw [IntKind.wrap_u64]; simp only [u64m]; omega
theorem ofV_fits {kind : Int} {x : Nat} (hx : x < 18446744073709551616) : (ofV kind x).Fits := by
  unfold ofV ValV.Fits
  have := canonF_lt hx
  split
  · exact ⟨by decide, by decide⟩
  split
  · exact wrap_fits _
  split
  · simp only [u64m]; omega
  · exact ⟨by decide, by decide⟩
theorem bits_lt {v : ValV} (h : v.Fits) : v.bits.toNat < 18446744073709551616 := by
  obtain ⟨h1, h2⟩ := h
  simp only [u64m] at h2; omega
theorem fitV_fits {kind : Int} {v : ValV} (h : v.Fits) : (fitV kind v).Fits := by
  unfold fitV
  split
  · exact ⟨by decide, by decide⟩
  split
  · exact ofV_fits (bits_lt h)
  · exact h
theorem leastF_lt {a b : Nat} (ha : a < 18446744073709551616) (hb : b < 18446744073709551616) : leastF a b < 18446744073709551616 := by
  unfold leastF; split
  · exact canonF_lt hb
  · exact canonF_lt ha
theorem mostF_lt {a b : Nat} (ha : a < 18446744073709551616) (hb : b < 18446744073709551616) : mostF a b < 18446744073709551616 := by
  unfold mostF; split
  · exact canonF_lt hb
  · exact canonF_lt ha
theorem joinV_fits {kind : Int} {a b : ValV} (ha : a.Fits) (hb : b.Fits) : (joinV kind a b).Fits := by
  unfold joinV
  split
  · exact hb
  split
  · exact ha
  split
  · exact ofV_fits (leastF_lt (bits_lt ha) (bits_lt hb))
  split
  · exact ofV_fits (mostF_lt (bits_lt ha) (bits_lt hb))
  · exact wrap_fits _
theorem mergeV_fits {kind : Int} {a b : ValV} (ha : a.Fits) (hb : b.Fits) : (mergeV kind a b).Fits := joinV_fits (fitV_fits ha) (fitV_fits hb)

theorem ofV_has {kind : Int} {x : Nat} (h : knownB kind = true) : (ofV kind x).has = true := by
  unfold knownB at h
  simp only [decide_eq_true_eq] at h
  unfold ofV
  split
  · rfl
  split
  · rfl
  rw [if_pos (by omega)]
theorem fit_of {kind : Int} {x : Nat} : fitV kind (ofV kind x) = ofV kind x := by
  unfold fitV
  cases hk : knownB kind
  · rw [if_pos (.inl rfl)]
    unfold knownB at hk
    simp only [decide_eq_false_iff_not] at hk
    unfold ofV; rw [if_neg (by omega), if_neg (by omega), if_neg (by omega)]
  · rw [if_neg (by rw [ofV_has hk]; simp)]
    split
    · rename_i h
      have e : ofV kind x = ⟨true, (canonF x : Int)⟩ := by unfold ofV; rw [if_neg (by omega), if_neg (by omega), if_pos h]
      rw [e]
      show ofV kind ((canonF x : Nat) : Int).toNat = _
      rw [Int.toNat_natCast]
      unfold ofV; rw [if_neg (by omega), if_neg (by omega), if_pos h, canonF_canon]
    · rfl
theorem fit_fit {kind : Int} {v : ValV} : fitV kind (fitV kind v) = fitV kind v := by
  by_cases h1 : knownB kind = false ∨ v.has = false
  · have e : fitV kind v = val0 := by unfold fitV; rw [if_pos h1]
    rw [e]; unfold fitV; rw [if_pos (.inr rfl)]
  · by_cases h2 : kind = 3 ∨ kind = 4
    · have e : fitV kind v = ofV kind v.bits.toNat := by unfold fitV; rw [if_neg h1, if_pos h2]
      rw [e, fit_of]
    · have e : fitV kind v = v := by unfold fitV; rw [if_neg h1, if_neg h2]
      rw [e, e]
theorem fit_zero {kind : Int} : fitV kind val0 = val0 := by unfold fitV; rw [if_pos (.inr rfl)]
theorem merge_zero {kind : Int} {b : ValV} : mergeV kind val0 b = fitV kind b := by unfold mergeV joinV; rw [fit_zero, if_pos (show val0.has = false from rfl)]
theorem merge_fit {kind : Int} {a b : ValV} : mergeV kind (fitV kind a) b = mergeV kind a b := by unfold mergeV; rw [fit_fit]

/-! ### tables -/
/-- the values of keys, in the order of their first stores -/
abbrev Tab : Type := List (Int × ValV)
def putT (kind : Int) (m : Tab) (k : Int) (v : ValV) : Tab := setM m k (mergeV kind ((getM m k).getD val0) v)
/-- a map's pairs, in the keys' order -/
def tableT (m : Tab) : List PairV := (sortL (m.map (·.1))).map fun k => pairOf k ((getM m k).getD val0)
def batchT (list : List OpV) (kind : Int) (m : Tab × Int) : List RecV → Tab × Int
  | [] => m
  | r :: rs => batchT list kind (if (runB list r).2 = 1 then (putT kind m.1 (runB list r).1.key (ofV kind (runB list r).1.val), m.2) else if (runB list r).2 = 3 then (m.1, m.2 + 1) else m) rs
def addT (kind : Int) (m : Tab) (l : List PairV) : Tab := l.foldl (fun m p => putT kind m p.key p.val) m
def soundB (l : List PairV) : Bool := decide ((∀ x ∈ l, x.has = true) ∧ (l.map (·.key)).Pairwise (· < ·))
def findT (l : List PairV) (k : Int) : ValV := match l.find? (fun p => p.key == k) with | some p => p.val | none => val0

/-- two tables with the same keys and values are one -/
theorem pairs_ext : ∀ {l r : List PairV}, (l.map (·.key)).Pairwise (· < ·) → (r.map (·.key)).Pairwise (· < ·) → (∀ x, x ∈ l ↔ x ∈ r) → l = r
  | [], [], _, _, _ => rfl
  | [], y :: r, _, _, h => absurd ((h y).2 (by simp)) (by simp)
  | x :: l, [], _, _, h => absurd ((h x).1 (by simp)) (by simp)
  | x :: l, y :: r, hl, hr, h => by
    rw [List.map_cons, List.pairwise_cons] at hl hr
    have kl : ∀ z ∈ l, x.key < z.key := fun z hz => hl.1 _ (List.mem_map_of_mem hz)
    have kr : ∀ z ∈ r, y.key < z.key := fun z hz => hr.1 _ (List.mem_map_of_mem hz)
    have hxy : x = y := by
      rcases List.mem_cons.1 ((h x).1 (by simp)) with e | h1
      · exact e
      · rcases List.mem_cons.1 ((h y).2 (by simp)) with e | h2
        · exact e.symm
        · have := kl y h2; have := kr x h1; omega
    subst hxy
    congr 1
    refine pairs_ext hl.2 hr.2 fun z => ⟨fun hz => ?_, fun hz => ?_⟩
    · rcases List.mem_cons.1 ((h z).1 (by simp [hz])) with e | h'
      · subst e; exact absurd (kl z hz) (by omega)
      · exact h'
    · rcases List.mem_cons.1 ((h z).2 (by simp [hz])) with e | h'
      · subst e; exact absurd (kr z hz) (by omega)
      · exact h'
/-- a rising list of pairs holds what a map holds -/
structure Same (m : Tab) (t : List PairV) : Prop where
  nodup : (m.map (·.1)).Nodup
  rise : (t.map (·.key)).Pairwise (· < ·)
  mem : ∀ k v, pairOf k v ∈ t ↔ getM m k = some v
theorem getM_mem {m : Tab} (hn : (m.map (·.1)).Nodup) {k : Int} {v : ValV} : getM m k = some v ↔ (k, v) ∈ m := by
  unfold getM
  induction m with
  | nil => simp
  | cons y r ih =>
    rw [List.map_cons, List.nodup_cons] at hn
    rw [List.find?_cons, List.mem_cons]
    by_cases h : y.1 = k
    · subst h
      simp only [beq_self_eq_true]
      constructor
      · intro h; simp at h; left; rw [← h]
      · rintro (h | h)
        · rw [← h]; rfl
        · exact absurd (List.mem_map_of_mem (f := (·.1)) h) hn.1
    · rw [show (y.1 == k) = false from by simpa using h]
      simp only
      rw [ih hn.2]
      constructor
      · exact .inr
      · rintro (h' | h')
        · rw [← h'] at h; exact absurd rfl h
        · exact h'
theorem getM_key {m : Tab} {k : Int} : (getM m k).isSome = true ↔ k ∈ m.map (·.1) := by
  unfold getM
  rw [Option.isSome_map, List.find?_isSome]
  constructor
  · rintro ⟨x, hx, he⟩
    simp only [beq_iff_eq] at he
    exact he ▸ List.mem_map_of_mem (f := (·.1)) hx
  · intro h
    obtain ⟨x, hx, he⟩ := List.mem_map.1 h
    exact ⟨x, hx, by simpa using he⟩
theorem pairOf_val (x : PairV) : pairOf x.key x.val = x := rfl
theorem table_same {m : Tab} (hn : (m.map (·.1)).Nodup) : Same m (tableT m) := by
  have hk : (tableT m).map (·.key) = sortL (m.map (·.1)) := by
    unfold tableT
    rw [List.map_map]
    have : ((fun x : PairV => x.key) ∘ fun k => pairOf k ((getM m k).getD val0)) = id := by funext k; rfl
    rw [this, List.map_id]
  refine ⟨hn, by rw [hk]; exact sortL_strict hn, fun k v => ?_⟩
  unfold tableT
  rw [List.mem_map]
  constructor
  · rintro ⟨k', hk', he⟩
    have e1 : k' = k := congrArg PairV.key he
    subst e1
    have hs := getM_key.2 (sortL_mem.1 hk')
    obtain ⟨v', hv'⟩ := Option.isSome_iff_exists.1 hs
    rw [hv'] at he ⊢
    have h2 : v'.has = v.has := congrArg PairV.has he
    have h3 : v'.bits = v.bits := congrArg PairV.bits he
    have : v' = v := by cases v'; cases v; simp_all
    rw [this]
  · intro h
    refine ⟨k, sortL_mem.2 (getM_key.1 (by rw [h]; rfl)), by rw [h]; rfl⟩
theorem Same.eq {m : Tab} {t : List PairV} (h : Same m t) : t = tableT m := by
  have h2 := table_same h.nodup
  refine pairs_ext h.rise h2.rise fun x => ?_
  rw [← pairOf_val x, h.mem, h2.mem]
theorem Same.uniq {m m' : Tab} {t t' : List PairV} (h : Same m t) (h' : Same m' t') (e : ∀ k, getM m k = getM m' k) : t = t' := by
  refine pairs_ext h.rise h'.rise fun x => ?_
  rw [← pairOf_val x, h.mem, h'.mem, e]
theorem getM_set {m : Tab} (hn : (m.map (·.1)).Nodup) {k k' : Int} {v : ValV} : getM (setM m k v) k' = if k' = k then some v else getM m k' := by
  unfold setM getM
  by_cases h : m.any fun p => p.1 == k
  · rw [if_pos h]
    clear hn
    induction m with
    | nil => simp at h
    | cons y r ih =>
      rw [List.map_cons, List.find?_cons, List.find?_cons]
      by_cases hy : y.1 = k
      · subst hy
        simp only [beq_self_eq_true, if_true]
        by_cases hk : k' = y.1
        · subst hk; simp
        · have hk2 : ¬ y.1 = k' := fun e => hk e.symm
          rw [show (y.1 == k') = false from by simpa using hk2, if_neg hk]
          simp only
          congr 1
          rw [List.find?_map]
          have : ((fun p : Int × ValV => p.1 == k') ∘ fun p => if (p.1 == y.1) = true then (y.1, v) else p) = fun p => p.1 == k' := by
            funext p
            simp only [Function.comp]
            by_cases hp : p.1 = y.1
            · rw [if_pos (by simpa using hp)]; simp [hp]
            · rw [if_neg (by simpa using hp)]
          rw [this]
          cases hf : r.find? (fun p => p.1 == k') with
          | none => rfl
          | some p =>
            have := List.find?_some hf
            simp only [beq_iff_eq] at this
            simp only [Option.map_some]
            rw [if_neg (by simp; rw [this]; exact hk)]
      · have hr : (r.any fun p => p.1 == k) = true := by
          rw [List.any_cons, show (y.1 == k) = false from by simpa using hy] at h
          simpa using h
        rw [show (y.1 == k) = false from by simpa using hy]
        simp only [Bool.false_eq_true, if_false]
        by_cases hk : y.1 = k'
        · subst hk
          simp [hy]
        · rw [show (y.1 == k') = false from by simpa using hk]
          exact ih hr
  · rw [if_neg h]
    have hno : m.find? (fun p => p.1 == k) = none := by
      rw [List.find?_eq_none]
      intro x hx hh
      exact h (List.any_eq_true.2 ⟨x, hx, hh⟩)
    rw [List.find?_append]
    by_cases hk : k' = k
    · subst hk; rw [hno, if_pos rfl]; simp
    · rw [if_neg hk]
      have hk2 : ¬ k = k' := fun e => hk e.symm
      cases hf : m.find? (fun p => p.1 == k') with
      | none => simp [hk2]
      | some p => simp
end Go.Sx
/- Tables that are added: two rising lists merged hold what the map holds. Conditions: none. -/
namespace Go.Sx
set_option linter.unusedSimpArgs false
set_option linter.unusedVariables false

def mergeL (kind : Int) : List PairV → List PairV → List PairV
  | [], [] => []
  | x :: l, [] => pairOf x.key (fitV kind x.val) :: mergeL kind l []
  | [], y :: r => pairOf y.key (fitV kind y.val) :: mergeL kind [] r
  | x :: l, y :: r => if x.key < y.key then pairOf x.key (fitV kind x.val) :: mergeL kind l (y :: r) else if y.key < x.key then pairOf y.key (fitV kind y.val) :: mergeL kind (x :: l) r else pairOf x.key (mergeV kind x.val y.val) :: mergeL kind l r
termination_by l r => l.length + r.length

/-- the value of a key in a list, if any -/
def getP (l : List PairV) (k : Int) : Option ValV := (l.find? fun p => p.key == k).map (·.val)
def bothV (kind : Int) : Option ValV → Option ValV → Option ValV
  | none, none => none
  | some a, none => some (fitV kind a)
  | none, some b => some (fitV kind b)
  | some a, some b => some (mergeV kind a b)
abbrev Rise (l : List PairV) : Prop := (l.map (·.key)).Pairwise (· < ·)
theorem getP_cons (x : PairV) (l : List PairV) (k : Int) : getP (x :: l) k = if x.key = k then some x.val else getP l k := by
  unfold getP
  rw [List.find?_cons]
  by_cases h : x.key = k
  · rw [if_pos h, show (x.key == k) = true from by simpa using h]; rfl
  · rw [if_neg h, show (x.key == k) = false from by simpa using h]
theorem getP_lt {l : List PairV} {k : Int} (h : ∀ x ∈ l, k < x.key) : getP l k = none := by
  unfold getP
  rw [List.find?_eq_none.2 (fun x hx => by have := h x hx; simp; omega)]; rfl
theorem rise_cons {x : PairV} {l : List PairV} (h : Rise (x :: l)) : (∀ y ∈ l, x.key < y.key) ∧ Rise l := by
  unfold Rise at h
  rw [List.map_cons, List.pairwise_cons] at h
  exact ⟨fun y hy => h.1 _ (List.mem_map_of_mem hy), h.2⟩
theorem cons_rise {x : PairV} {l : List PairV} (h : ∀ y ∈ l, x.key < y.key) (hl : Rise l) : Rise (x :: l) := by
  unfold Rise
  rw [List.map_cons, List.pairwise_cons]
  refine ⟨fun k hk => ?_, hl⟩
  obtain ⟨y, hy, rfl⟩ := List.mem_map.1 hk
  exact h y hy
/-- the merged list: rising, its keys those of the two, its values the two's together -/
theorem mergeL_spec (kind : Int) : ∀ (N : Nat) (l r : List PairV), l.length + r.length ≤ N → Rise l → Rise r → Rise (mergeL kind l r) ∧ (∀ x ∈ mergeL kind l r, (∃ y ∈ l, y.key = x.key) ∨ (∃ y ∈ r, y.key = x.key)) ∧ (mergeL kind l r).length ≤ l.length + r.length ∧ ∀ k, getP (mergeL kind l r) k = bothV kind (getP l k) (getP r k)
  | N, [], [], _, _, _ => by
    rw [mergeL]
    exact ⟨List.Pairwise.nil, by simp, by simp, fun k => rfl⟩
  | N, x :: l, [], hN, hl, hr => by
    obtain ⟨h1, h2⟩ := rise_cons hl
    have hN' : l.length + ([] : List PairV).length ≤ N - 1 := by simp only [List.length_cons, List.length_nil] at hN ⊢; omega
    obtain ⟨a1, a2, a3, a4⟩ := mergeL_spec kind (N - 1) l [] hN' h2 hr
    rw [mergeL]
    refine ⟨cons_rise (fun y hy => ?_) a1, fun z hz => ?_, by simp only [List.length_cons, List.length_nil] at a3 ⊢; omega, fun k => ?_⟩
    · rcases a2 y hy with ⟨q, hq, he⟩ | ⟨q, hq, he⟩
      · show x.key < y.key
        have := h1 q hq; omega
      · simp at hq
    · rcases List.mem_cons.1 hz with rfl | hz
      · exact .inl ⟨x, by simp, rfl⟩
      · rcases a2 z hz with ⟨q, hq, he⟩ | ⟨q, hq, he⟩
        · exact .inl ⟨q, by simp [hq], he⟩
        · simp at hq
    · rw [getP_cons, getP_cons, a4]
      by_cases h : x.key = k
      · rw [if_pos h, if_pos (show (pairOf x.key (fitV kind x.val)).key = k from h)]; rfl
      · rw [if_neg h, if_neg (show ¬ (pairOf x.key (fitV kind x.val)).key = k from h)]
  | N, [], y :: r, hN, hl, hr => by
    obtain ⟨h1, h2⟩ := rise_cons hr
    have hN' : ([] : List PairV).length + r.length ≤ N - 1 := by simp only [List.length_cons, List.length_nil] at hN ⊢; omega
    obtain ⟨a1, a2, a3, a4⟩ := mergeL_spec kind (N - 1) [] r hN' hl h2
    rw [mergeL]
    refine ⟨cons_rise (fun z hz => ?_) a1, fun z hz => ?_, by simp only [List.length_cons, List.length_nil] at a3 ⊢; omega, fun k => ?_⟩
    · rcases a2 z hz with ⟨q, hq, he⟩ | ⟨q, hq, he⟩
      · simp at hq
      · show y.key < z.key
        have := h1 q hq; omega
    · rcases List.mem_cons.1 hz with rfl | hz
      · exact .inr ⟨y, by simp, rfl⟩
      · rcases a2 z hz with ⟨q, hq, he⟩ | ⟨q, hq, he⟩
        · simp at hq
        · exact .inr ⟨q, by simp [hq], he⟩
    · rw [getP_cons, getP_cons, a4]
      by_cases h : y.key = k
      · rw [if_pos h, if_pos (show (pairOf y.key (fitV kind y.val)).key = k from h)]; rfl
      · rw [if_neg h, if_neg (show ¬ (pairOf y.key (fitV kind y.val)).key = k from h)]
  | N, x :: l, y :: r, hN, hl, hr => by
    obtain ⟨h1, h2⟩ := rise_cons hl
    obtain ⟨g1, g2⟩ := rise_cons hr
    rw [mergeL]
    by_cases hxy : x.key < y.key
    · rw [if_pos hxy]
      have hN' : l.length + (y :: r).length ≤ N - 1 := by simp only [List.length_cons] at hN ⊢; omega
      obtain ⟨a1, a2, a3, a4⟩ := mergeL_spec kind (N - 1) l (y :: r) hN' h2 hr
      refine ⟨cons_rise (fun z hz => ?_) a1, fun z hz => ?_, by simp only [List.length_cons] at a3 ⊢; omega, fun k => ?_⟩
      · show x.key < z.key
        rcases a2 z hz with ⟨q, hq, he⟩ | ⟨q, hq, he⟩
        · have := h1 q hq; omega
        · rcases List.mem_cons.1 hq with rfl | hq
          · omega
          · have := g1 q hq; omega
      · rcases List.mem_cons.1 hz with rfl | hz
        · exact .inl ⟨x, by simp, rfl⟩
        · rcases a2 z hz with ⟨q, hq, he⟩ | h
          · exact .inl ⟨q, by simp [hq], he⟩
          · exact .inr h
      · rw [getP_cons, getP_cons x l, a4]
        by_cases h : x.key = k
        · rw [if_pos h, if_pos (show (pairOf x.key (fitV kind x.val)).key = k from h)]
          have hn : getP (y :: r) k = none := getP_lt fun q hq => by
            rcases List.mem_cons.1 hq with rfl | hq
            · omega
            · have := g1 q hq; omega
          rw [hn]; rfl
        · rw [if_neg h, if_neg (show ¬ (pairOf x.key (fitV kind x.val)).key = k from h)]
    · rw [if_neg hxy]
      by_cases hyx : y.key < x.key
      · rw [if_pos hyx]
        have hN' : (x :: l).length + r.length ≤ N - 1 := by simp only [List.length_cons] at hN ⊢; omega
        obtain ⟨a1, a2, a3, a4⟩ := mergeL_spec kind (N - 1) (x :: l) r hN' hl g2
        refine ⟨cons_rise (fun z hz => ?_) a1, fun z hz => ?_, by simp only [List.length_cons] at a3 ⊢; omega, fun k => ?_⟩
        · show y.key < z.key
          rcases a2 z hz with ⟨q, hq, he⟩ | ⟨q, hq, he⟩
          · rcases List.mem_cons.1 hq with rfl | hq
            · omega
            · have := h1 q hq; omega
          · have := g1 q hq; omega
        · rcases List.mem_cons.1 hz with rfl | hz
          · exact .inr ⟨y, by simp, rfl⟩
          · rcases a2 z hz with h | ⟨q, hq, he⟩
            · exact .inl h
            · exact .inr ⟨q, by simp [hq], he⟩
        · rw [getP_cons, getP_cons y r, a4]
          by_cases h : y.key = k
          · rw [if_pos h, if_pos (show (pairOf y.key (fitV kind y.val)).key = k from h)]
            have hn : getP (x :: l) k = none := getP_lt fun q hq => by
              rcases List.mem_cons.1 hq with rfl | hq
              · omega
              · have := h1 q hq; omega
            rw [hn]; rfl
          · rw [if_neg h, if_neg (show ¬ (pairOf y.key (fitV kind y.val)).key = k from h)]
      · rw [if_neg hyx]
        have he : x.key = y.key := by omega
        have hN' : l.length + r.length ≤ N - 1 := by simp only [List.length_cons] at hN ⊢; omega
        obtain ⟨a1, a2, a3, a4⟩ := mergeL_spec kind (N - 1) l r hN' h2 g2
        refine ⟨cons_rise (fun z hz => ?_) a1, fun z hz => ?_, by simp only [List.length_cons] at a3 ⊢; omega, fun k => ?_⟩
        · show x.key < z.key
          rcases a2 z hz with ⟨q, hq, hq2⟩ | ⟨q, hq, hq2⟩
          · have := h1 q hq; omega
          · have := g1 q hq; omega
        · rcases List.mem_cons.1 hz with rfl | hz
          · exact .inl ⟨x, by simp, rfl⟩
          · rcases a2 z hz with ⟨q, hq, hq2⟩ | ⟨q, hq, hq2⟩
            · exact .inl ⟨q, by simp [hq], hq2⟩
            · exact .inr ⟨q, by simp [hq], hq2⟩
        · rw [getP_cons, getP_cons x l, getP_cons y r, a4]
          by_cases h : x.key = k
          · rw [if_pos h, if_pos (show y.key = k by omega), if_pos (show (pairOf x.key (mergeV kind x.val y.val)).key = k from h)]; rfl
          · rw [if_neg h, if_neg (show ¬ y.key = k by omega), if_neg (show ¬ (pairOf x.key (mergeV kind x.val y.val)).key = k from h)]
theorem getP_mem {l : List PairV} (h : Rise l) {k : Int} {v : ValV} : pairOf k v ∈ l ↔ getP l k = some v := by
  induction l with
  | nil => simp [getP]
  | cons x l ih =>
    obtain ⟨h1, h2⟩ := rise_cons h
    rw [getP_cons, List.mem_cons, ih h2]
    by_cases hk : x.key = k
    · rw [if_pos hk]
      have hn : getP l k = none := getP_lt fun q hq => by have := h1 q hq; omega
      rw [hn]
      constructor
      · rintro (e | e)
        · rw [← e]; rfl
        · cases e
      · intro e
        left
        have e := Option.some.inj e
        rw [← e, ← hk]; rfl
    · rw [if_neg hk]
      constructor
      · rintro (e | e)
        · exact absurd (congrArg PairV.key e).symm hk
        · exact e
      · exact .inr

/-! ### the map -/
theorem setM_nodup {m : Tab} (h : (m.map (·.1)).Nodup) {k : Int} {v : ValV} : ((setM m k v).map (·.1)).Nodup := by
  unfold setM
  split
  · have : (m.map fun p => if (p.1 == k) = true then (k, v) else p).map (·.1) = m.map (·.1) := by
      rw [List.map_map]
      apply List.map_congr_left
      intro p hp
      simp only [Function.comp]
      by_cases hpk : p.1 = k
      · rw [if_pos (by simpa using hpk)]; exact hpk.symm
      · rw [if_neg (by simpa using hpk)]
    rw [this]; exact h
  · rename_i hn
    rw [List.map_append, List.nodup_append]
    refine ⟨h, by simp, fun a ha b hb => ?_⟩
    simp at hb; subst hb
    rintro rfl
    obtain ⟨p, hp, he⟩ := List.mem_map.1 ha
    exact hn (List.any_eq_true.2 ⟨p, hp, by simpa using he⟩)
theorem addT_spec (kind : Int) : ∀ (l : List PairV) (m : Tab), (m.map (·.1)).Nodup → Rise l → ((addT kind m l).map (·.1)).Nodup ∧ ∀ k, getM (addT kind m l) k = match getP l k with | none => getM m k | some v => some (mergeV kind ((getM m k).getD val0) v)
  | [], m, hm, _ => ⟨hm, fun k => rfl⟩
  | x :: l, m, hm, hl => by
    obtain ⟨h1, h2⟩ := rise_cons hl
    have hn : ((putT kind m x.key x.val).map (·.1)).Nodup := setM_nodup hm
    obtain ⟨a1, a2⟩ := addT_spec kind l (putT kind m x.key x.val) hn h2
    refine ⟨a1, fun k => ?_⟩
    show getM (addT kind (putT kind m x.key x.val) l) k = _
    rw [a2 k, getP_cons]
    have hset : getM (putT kind m x.key x.val) k = if k = x.key then some (mergeV kind ((getM m x.key).getD val0) x.val) else getM m k := getM_set hm
    by_cases h : x.key = k
    · rw [if_pos h]
      have hz : getP l k = none := getP_lt fun q hq => by have := h1 q hq; omega
      rw [hz, hset, if_pos h.symm, h]
    · rw [if_neg h, hset, if_neg (fun e => h e.symm)]
theorem add_same {kind : Int} {l r : List PairV} (hl : Rise l) (hr : Rise r) : tableT (addT kind [] (l ++ r)) = mergeL kind l r := by
  obtain ⟨b1, b2, b3, b4⟩ := mergeL_spec kind (l.length + r.length) l r (Nat.le_refl _) hl hr
  obtain ⟨c1, c2⟩ := addT_spec kind l [] (by simp) hl
  obtain ⟨d1, d2⟩ := addT_spec kind r (addT kind [] l) c1 hr
  have e : addT kind [] (l ++ r) = addT kind (addT kind [] l) r := by unfold addT; rw [List.foldl_append]
  rw [e]
  symm
  refine Same.eq ⟨d1, b1, fun k v => ?_⟩
  rw [getP_mem b1, b4 k, d2 k, c2 k]
  cases h1 : getP l k with
  | none =>
    cases h2 : getP r k with
    | none => simp [bothV, getM]
    | some u =>
      have : ((getM ([] : Tab) k).getD val0) = val0 := rfl
      simp only [bothV, this, merge_zero]
  | some a =>
    cases h2 : getP r k with
    | none =>
      have : ((getM ([] : Tab) k).getD val0) = val0 := rfl
      simp only [bothV, this, merge_zero]
    | some u =>
      have : ((getM ([] : Tab) k).getD val0) = val0 := rfl
      simp only [bothV, this, merge_zero, Option.getD_some, merge_fit]
end Go.Sx
/- A rising list of pairs with a part more. Conditions: none. -/
namespace Go.Sx
set_option linter.unusedSimpArgs false
set_option linter.unusedVariables false

theorem pairOf_inj {k k' : Int} {v v' : ValV} (h : pairOf k v = pairOf k' v') : k = k' ∧ v = v' := by
  have h1 : k = k' := congrArg PairV.key h
  have h2 : v.has = v'.has := congrArg PairV.has h
  have h3 : v.bits = v'.bits := congrArg PairV.bits h
  exact ⟨h1, by cases v; cases v'; simp_all⟩
theorem same_insert {kind : Int} {m : Tab} {t : List PairV} {k : Int} {v : ValV} {j : Nat} (h : Same m t) (hj : j ≤ t.length) (h1 : ∀ x ∈ t.take j, x.key < k) (h2 : ∀ x, t[j]? = some x → k < x.key) :
    Same (putT kind m k v) (t.take j ++ pairOf k (fitV kind v) :: t.drop j) := by
  obtain ⟨p1, p2, p3⟩ := strict_put (l := t.map (·.key)) (k := k) (j := j) h.rise (by simpa using hj) (fun x hx => by
    rw [← List.map_take] at hx
    obtain ⟨y, hy, rfl⟩ := List.mem_map.1 hx
    exact h1 y hy) (fun x hx => by
    rw [List.getElem?_map] at hx
    obtain ⟨y, hy, rfl⟩ := Option.map_eq_some_iff.1 hx
    exact h2 y hy)
  have hno : getM m k = none := by
    cases hg : getM m k with
    | none => rfl
    | some u =>
      have := (h.mem k u).2 hg
      exact absurd (List.mem_map_of_mem (f := (·.key)) this) p3
  have hput : putT kind m k v = setM m k (fitV kind v) := by unfold putT; rw [hno]; show setM m k (mergeV kind val0 v) = _; rw [merge_zero]
  rw [hput]
  refine ⟨setM_nodup h.nodup, ?_, fun k' v' => ?_⟩
  · rw [List.map_append, List.map_cons, List.map_take, List.map_drop]; exact p1
  · rw [getM_set h.nodup, List.mem_append, List.mem_cons]
    have hsplit : pairOf k' v' ∈ t ↔ pairOf k' v' ∈ t.take j ∨ pairOf k' v' ∈ t.drop j := by rw [← List.mem_append, List.take_append_drop]
    by_cases hk : k' = k
    · subst hk
      rw [if_pos rfl]
      have hnt : ¬ pairOf k' v' ∈ t := fun hm => p3 (List.mem_map_of_mem (f := (·.key)) hm)
      rw [hsplit] at hnt
      constructor
      · rintro (e | e | e)
        · exact absurd (.inl e) hnt
        · rw [(pairOf_inj e).2]
        · exact absurd (.inr e) hnt
      · intro e
        right; left
        rw [Option.some.inj e]
    · rw [if_neg hk, ← h.mem k' v', hsplit]
      constructor
      · rintro (e | e | e)
        · exact .inl e
        · exact absurd (pairOf_inj e).1 hk
        · exact .inr e
      · rintro (e | e)
        · exact .inl e
        · exact .inr (.inr e)
theorem same_set {kind : Int} {m : Tab} {t : List PairV} {k : Int} {v : ValV} {j : Nat} {x : PairV} (h : Same m t) (hx : t[j]? = some x) (hk : x.key = k) :
    Same (putT kind m k v) (t.set j (pairOf k (mergeV kind x.val v))) := by
  subst hk
  have hmem := List.mem_of_getElem? hx
  have hg : getM m x.key = some x.val := (h.mem _ _).1 (by rw [pairOf_val]; exact hmem)
  have hput : putT kind m x.key v = setM m x.key (mergeV kind x.val v) := by unfold putT; rw [hg]; rfl
  rw [hput]
  have hkeys : (t.set j (pairOf x.key (mergeV kind x.val v))).map (·.key) = t.map (·.key) := by
    apply List.ext_getElem?
    intro i
    rw [List.getElem?_map, List.getElem?_map, List.getElem?_set]
    by_cases hi : j = i
    · subst hi; rw [if_pos rfl, if_pos (List.getElem?_eq_some_iff.1 hx).1, hx]; rfl
    · rw [if_neg hi]
  refine ⟨setM_nodup h.nodup, by rw [hkeys]; exact h.rise, fun k' v' => ?_⟩
  rw [getM_set h.nodup]
  have hs := set_mem_iff (x := pairOf x.key (mergeV kind x.val v)) (y := pairOf k' v') hx
  have hs' : pairOf k' v' ∈ t.set j (pairOf x.key (mergeV kind x.val v)) ↔ pairOf k' v' = pairOf x.key (mergeV kind x.val v) ∨ ∃ i, i ≠ j ∧ t[i]? = some (pairOf k' v') := by
    rw [← hs]; exact ⟨fun h => ⟨_, h, rfl⟩, fun ⟨q, hq, e⟩ => e ▸ hq⟩
  rw [hs']
  have hother : ∀ i y, i ≠ j → t[i]? = some y → y.key ≠ x.key := by
    intro i y hi hy he
    have e1 : (t.map (·.key))[i]? = some y.key := by rw [List.getElem?_map, hy]; rfl
    have e2 : (t.map (·.key))[j]? = some x.key := by rw [List.getElem?_map, hx]; rfl
    obtain ⟨i1, e1⟩ := List.getElem?_eq_some_iff.1 e1
    obtain ⟨i2, e2⟩ := List.getElem?_eq_some_iff.1 e2
    have hp := List.pairwise_iff_getElem.1 h.rise
    rcases Nat.lt_or_gt_of_ne hi with hlt | hlt
    · have := hp i j i1 i2 hlt; rw [e1, e2] at this; omega
    · have := hp j i i2 i1 hlt; rw [e1, e2] at this; omega
  by_cases hk : k' = x.key
  · subst hk
    rw [if_pos rfl]
    constructor
    · rintro (e | ⟨i, hi, e⟩)
      · rw [(pairOf_inj e).2]
      · exact absurd rfl (hother i (pairOf x.key v') hi e)
    · intro e
      left; rw [Option.some.inj e]
  · rw [if_neg hk, ← h.mem k' v']
    constructor
    · rintro (e | ⟨i, hi, e⟩)
      · exact absurd (pairOf_inj e).1 hk
      · exact List.mem_of_getElem? e
    · intro e
      obtain ⟨i, hi⟩ := List.getElem?_of_mem e
      refine .inr ⟨i, fun hij => ?_, hi⟩
      subst hij
      rw [hx] at hi
      exact hk (congrArg PairV.key (Option.some.inj hi)).symm

/-- the value of a pair of an owned row is written -/
theorem Own.setVal {w : World} {B : Nat} {e : TypeId} {a : Option Addr} {n c : Nat} {l : List PairV} (h : Own w B e Enc.pair a n c l) {i : Nat} {x : PairV} (hi : l[i]? = some x) (v : ValV) :
    ∃ g, a = some ⟨g, 0, none⟩ ∧ RoomAt w ⟨g, i * 3 + 1, none⟩ 0 [.bool v.has, .int .u64 v.bits] ∧ Own (setCells w ⟨g, i * 3 + 1, none⟩ 0 [.bool v.has, .int .u64 v.bits]) B e Enc.pair a n c (l.set i (pairOf x.key v)) ∧ Upd (fun b => b = g) w (setCells w ⟨g, i * 3 + 1, none⟩ 0 [.bool v.has, .int .u64 v.bits]) := by
  obtain ⟨g, hg, hR, hO, hU⟩ := h.set1 (i := i) (x := x) (x' := ⟨x.key, v.has, x.bits⟩) (v := .bool v.has) (j := 1) hi (by decide) (by simp [Enc.pair])
  obtain ⟨g', hg', hR', -, -⟩ := h.set1 (i := i) (x := x) (x' := ⟨x.key, x.has, v.bits⟩) (v := .int .u64 v.bits) (j := 2) hi (by decide) (by simp [Enc.pair])
  rw [hg] at hg'; cases hg'
  have hlt := (List.getElem?_eq_some_iff.1 hi).1
  obtain ⟨g', hg', hR2, hO2, hU2⟩ := hO.set1 (i := i) (x := ⟨x.key, v.has, x.bits⟩) (x' := pairOf x.key v) (v := .int .u64 v.bits) (j := 2) (by rw [List.getElem?_set, if_pos rfl, if_pos hlt]) (by decide) (by simp [Enc.pair, pairOf])
  rw [hg] at hg'; cases hg'
  have e1 : i * Enc.pair.sz + 1 = i * 3 + 1 := rfl
  have e2 : i * Enc.pair.sz + 2 = i * 3 + 2 := rfl
  rw [e1] at hR hO hU
  rw [e2] at hR'
  have eset : setCells w ⟨g, i * 3 + 1, none⟩ 0 [.bool v.has, .int .u64 v.bits] = setCells (setCells w ⟨g, i * 3 + 1, none⟩ 0 [.bool v.has]) ⟨g, i * 3 + 2, none⟩ 0 [.int .u64 v.bits] := by
    simp only [setCells, add_mk]
  rw [e2] at hO2 hU2
  rw [e1] at hO2 hU2
  rw [List.set_set] at hO2
  refine ⟨g, hg, ⟨hR.1, ?_, trivial⟩, by rw [eset]; exact hO2, by rw [eset]; exact hU.trans hU2⟩
  have := hR'.1
  rw [add_mk] at this ⊢
  exact this
end Go.Sx
/- Values of aggregates may be brought together in any order. Conditions: none. -/
namespace Go.Sx
set_option linter.unusedSimpArgs false
set_option linter.unusedVariables false

theorem rank_inj {x y : Nat} (hx : x < 18446744073709551616) (hy : y < 18446744073709551616) (cx : canonF x = x) (cy : canonF y = y) (h : rankN x = rankN y) : x = y := by
  cases nx : nanB x
  · have lx := rank_lt_nan hx nx
    cases ny : nanB y
    · have e : ∀ {z : Nat}, nanB z = false → rankN z = if 9223372036854775808 ≤ z then -1 - ((z : Int) - 9223372036854775808) else z := fun h => by unfold rankN; rw [if_neg (by rw [h]; decide)]
      rw [e nx, e ny] at h
      split at h <;> split at h <;> omega
    · rw [rank_nan ny] at h; omega
  · cases ny : nanB y
    · have ly := rank_lt_nan hy ny
      rw [rank_nan nx] at h; omega
    · rw [canonF_nan nx] at cx; rw [canonF_nan ny] at cy
      rw [← cx, ← cy]
theorem leastF_min {x y : Nat} (cx : canonF x = x) (cy : canonF y = y) : leastF x y = if rankN y < rankN x then y else x := by
  unfold leastF ordN
  by_cases h : rankN y < rankN x
  · have h2 : ¬ rankN x < rankN y := by omega
    simp [h, h2, cy]
  · by_cases h2 : rankN x < rankN y
    · simp [h, h2, cx]
    · simp [h, h2, cx]
theorem mostF_max {x y : Nat} (cx : canonF x = x) (cy : canonF y = y) : mostF x y = if rankN x < rankN y then y else x := by
  unfold mostF ordN
  by_cases h : rankN x < rankN y
  · simp [h, cy]
  · by_cases h2 : rankN y < rankN x
    · simp [h, h2, cx]
    · simp [h, h2, cx]

/-- a value in its one form, as wide as it may be -/
structure Form (kind : Int) (v : ValV) : Prop where
  fit : fitV kind v = v
  wide : v.Fits
theorem Form.zero {kind : Int} : Form kind val0 := ⟨fit_zero, by decide, by decide⟩
theorem Form.of {kind : Int} {x : Nat} (hx : x < 18446744073709551616) : Form kind (ofV kind x) := ⟨fit_of, ofV_fits hx⟩
theorem Form.fitted {kind : Int} {v : ValV} (h : v.Fits) : Form kind (fitV kind v) := ⟨fit_fit, fitV_fits h⟩
theorem Form.bits {kind : Int} {v : ValV} (h : Form kind v) (hh : v.has = true) (hk : kind = 3 ∨ kind = 4) : canonF v.bits.toNat = v.bits.toNat ∧ v.bits.toNat < 18446744073709551616 ∧ v = ⟨true, (v.bits.toNat : Int)⟩ := by
  have hf := h.fit
  obtain ⟨w1, w2⟩ := h.wide
  have hb := bits_lt h.wide
  have hkn : knownB kind = true := by unfold knownB; rw [decide_eq_true_eq]; omega
  unfold fitV at hf
  rw [if_neg (by rw [hkn, hh]; simp), if_pos hk] at hf
  have e : ofV kind v.bits.toNat = ⟨true, (canonF v.bits.toNat : Int)⟩ := by unfold ofV; rw [if_neg (by omega), if_neg (by omega), if_pos hk]
  rw [e] at hf
  have h1 : ((canonF v.bits.toNat : Nat) : Int) = v.bits := congrArg ValV.bits hf
  refine ⟨by omega, hb, ?_⟩
  cases v
  simp only at hh w1 ⊢
  rw [hh]; congr 1; omega
theorem Form.empty {kind : Int} {v : ValV} (h : Form kind v) (hh : v.has = false) : v = val0 := by
  have hf := h.fit
  unfold fitV at hf
  rw [if_pos (.inr hh)] at hf
  exact hf.symm
theorem ofV_form {kind : Int} {x : Nat} (hk : kind = 3 ∨ kind = 4) (cx : canonF x = x) : ofV kind x = ⟨true, (x : Int)⟩ := by
  unfold ofV; rw [if_neg (by omega), if_neg (by omega), if_pos hk, cx]
theorem Form.join {kind : Int} {a b : ValV} (hk : knownB kind = true) (ha : Form kind a) (hb : Form kind b) : Form kind (joinV kind a b) := by
  refine ⟨?_, joinV_fits ha.wide hb.wide⟩
  unfold knownB at hk
  simp only [decide_eq_true_eq] at hk
  unfold joinV
  split
  · exact hb.fit
  split
  · exact ha.fit
  split
  · rename_i h; subst h; exact fit_of
  split
  · rename_i h; subst h; exact fit_of
  · unfold fitV
    rw [if_neg (by simp [knownB]; omega), if_neg (by omega)]
theorem mergeV_form {kind : Int} {a b : ValV} (ha : Form kind a) (hb : Form kind b) : mergeV kind a b = joinV kind a b := by unfold mergeV; rw [ha.fit, hb.fit]
theorem join_zero {kind : Int} {a : ValV} (ha : Form kind a) : joinV kind val0 a = a ∧ joinV kind a val0 = a := by
  constructor
  · unfold joinV; rw [if_pos (show val0.has = false from rfl)]
  · unfold joinV
    by_cases h : a.has = false
    · rw [if_pos h]; exact (ha.empty h).symm
    · rw [if_neg h, if_pos (show val0.has = false from rfl)]
theorem join_has {kind : Int} {a b : ValV} (h1 : a.has = true) (h2 : b.has = true) : joinV kind a b = if kind = 3 then ofV 3 (leastF a.bits.toNat b.bits.toNat) else if kind = 4 then ofV 4 (mostF a.bits.toNat b.bits.toNat) else ⟨true, IntKind.u64.wrap (a.bits + b.bits)⟩ := by
  unfold joinV; rw [if_neg (by rw [h1]; decide), if_neg (by rw [h2]; decide)]
theorem join_comm {kind : Int} {a b : ValV} (ha : Form kind a) (hb : Form kind b) : joinV kind a b = joinV kind b a := by
  cases h1 : a.has
  · rw [ha.empty h1, (join_zero hb).1, (join_zero hb).2]
  cases h2 : b.has
  · rw [hb.empty h2, (join_zero ha).1, (join_zero ha).2]
  rw [join_has h1 h2, join_has h2 h1]
  by_cases k3 : kind = 3
  · rw [if_pos k3, if_pos k3]
    obtain ⟨c1, l1, -⟩ := ha.bits h1 (.inl k3)
    obtain ⟨c2, l2, -⟩ := hb.bits h2 (.inl k3)
    congr 1
    rw [leastF_min c1 c2, leastF_min c2 c1]
    rcases Int.lt_trichotomy (rankN a.bits.toNat) (rankN b.bits.toNat) with h | h | h
    · rw [if_neg (by omega), if_pos h]
    · rw [rank_inj l1 l2 c1 c2 h]
    · rw [if_pos h, if_neg (by omega)]
  rw [if_neg k3, if_neg k3]
  by_cases k4 : kind = 4
  · rw [if_pos k4, if_pos k4]
    obtain ⟨c1, l1, -⟩ := ha.bits h1 (.inr k4)
    obtain ⟨c2, l2, -⟩ := hb.bits h2 (.inr k4)
    congr 1
    rw [mostF_max c1 c2, mostF_max c2 c1]
    rcases Int.lt_trichotomy (rankN a.bits.toNat) (rankN b.bits.toNat) with h | h | h
    · rw [if_pos h, if_neg (by omega)]
    · rw [rank_inj l1 l2 c1 c2 h]
    · rw [if_neg (by omega), if_pos h]
  rw [if_neg k4, if_neg k4, Int.add_comm]
theorem join_bits3 {a b : ValV} (ha : Form 3 a) (hb : Form 3 b) (h1 : a.has = true) (h2 : b.has = true) : joinV 3 a b = ⟨true, ((if rankN b.bits.toNat < rankN a.bits.toNat then b.bits.toNat else a.bits.toNat : Nat) : Int)⟩ := by
  obtain ⟨c1, l1, -⟩ := ha.bits h1 (.inl rfl)
  obtain ⟨c2, l2, -⟩ := hb.bits h2 (.inl rfl)
  rw [join_has h1 h2, if_pos rfl, leastF_min c1 c2]
  split
  · exact ofV_form (.inl rfl) c2
  · exact ofV_form (.inl rfl) c1
theorem join_bits4 {a b : ValV} (ha : Form 4 a) (hb : Form 4 b) (h1 : a.has = true) (h2 : b.has = true) : joinV 4 a b = ⟨true, ((if rankN a.bits.toNat < rankN b.bits.toNat then b.bits.toNat else a.bits.toNat : Nat) : Int)⟩ := by
  obtain ⟨c1, l1, -⟩ := ha.bits h1 (.inr rfl)
  obtain ⟨c2, l2, -⟩ := hb.bits h2 (.inr rfl)
  rw [join_has h1 h2, if_neg (by decide), if_pos rfl, mostF_max c1 c2]
  split
  · exact ofV_form (.inr rfl) c2
  · exact ofV_form (.inr rfl) c1
theorem join_assoc {kind : Int} {a b c : ValV} (hk : knownB kind = true) (ha : Form kind a) (hb : Form kind b) (hc : Form kind c) : joinV kind (joinV kind a b) c = joinV kind a (joinV kind b c) := by
  cases h1 : a.has
  · rw [ha.empty h1, (join_zero hb).1, (join_zero (Form.join hk hb hc)).1]
  cases h2 : b.has
  · rw [hb.empty h2, (join_zero ha).2, (join_zero hc).1]
  cases h3 : c.has
  · rw [hc.empty h3, (join_zero hb).2, (join_zero (Form.join hk ha hb)).2]
  have fab := Form.join hk ha hb
  have fbc := Form.join hk hb hc
  by_cases k3 : kind = 3
  · subst k3
    have e1 := join_bits3 ha hb h1 h2
    have e2 := join_bits3 hb hc h2 h3
    rw [join_bits3 fab hc (by rw [e1]) h3, join_bits3 ha fbc h1 (by rw [e2]), e1, e2]
    simp only [Int.toNat_natCast]
    congr 2
    repeat' split
    all_goals omega
  by_cases k4 : kind = 4
  · subst k4
    have e1 := join_bits4 ha hb h1 h2
    have e2 := join_bits4 hb hc h2 h3
    rw [join_bits4 fab hc (by rw [e1]) h3, join_bits4 ha fbc h1 (by rw [e2]), e1, e2]
    simp only [Int.toNat_natCast]
    congr 2
    repeat' split
    all_goals omega
  have e : ∀ {x y : ValV}, x.has = true → y.has = true → joinV kind x y = ⟨true, IntKind.u64.wrap (x.bits + y.bits)⟩ := fun hx hy => by rw [join_has hx hy, if_neg k3, if_neg k4]
  rw [e h1 h2, e h2 h3, e rfl h3, e h1 rfl]
  congr 1
  simp only [IntKind.wrap_u64]
  omega
end Go.Sx
/- What a batch holds, key by key. Conditions: none. -/
namespace Go.Sx
set_option linter.unusedSimpArgs false
set_option linter.unusedVariables false

def bOne (list : List OpV) (kind : Int) (m : Tab × Int) (r : RecV) : Tab × Int := if (runB list r).2 = 1 then (putT kind m.1 (runB list r).1.key (ofV kind (runB list r).1.val), m.2) else if (runB list r).2 = 3 then (m.1, IntKind.i64.wrap (m.2 + 1)) else m
def bAll (list : List OpV) (kind : Int) (rs : List RecV) : Tab × Int := rs.foldl (bOne list kind) ([], 0)
/-- the parts that the kept records make -/
def keptL (list : List OpV) (kind : Int) (rs : List RecV) : List (Int × ValV) := rs.filterMap fun r => if (runB list r).2 = 1 then some ((runB list r).1.key, ofV kind (runB list r).1.val) else none
def valsOf (ks : List (Int × ValV)) (k : Int) : List ValV := (ks.filter fun p => p.1 == k).map (·.2)
def sumV (kind : Int) (vs : List ValV) : ValV := vs.foldl (joinV kind) val0
def trapN (list : List OpV) (rs : List RecV) : Nat := (rs.filter fun r => (runB list r).2 == 3).length

theorem bAll_tab (list : List OpV) (kind : Int) : ∀ (rs : List RecV) (m : Tab × Int), (rs.foldl (bOne list kind) m).1 = (keptL list kind rs).foldl (fun m p => putT kind m p.1 p.2) m.1
  | [], m => rfl
  | r :: rs, m => by
    show (rs.foldl (bOne list kind) (bOne list kind m r)).1 = _
    rw [bAll_tab list kind rs]
    unfold keptL bOne
    rw [List.filterMap_cons]
    by_cases h1 : (runB list r).2 = 1
    · rw [if_pos h1, if_pos h1]; rfl
    · rw [if_neg h1, if_neg h1]
      by_cases h3 : (runB list r).2 = 3
      · rw [if_pos h3]
      · rw [if_neg h3]
theorem bAll_traps (list : List OpV) (kind : Int) : ∀ (rs : List RecV) (m : Tab × Int), 0 ≤ m.2 → m.2 + rs.length < 9223372036854775808 → (rs.foldl (bOne list kind) m).2 = m.2 + (trapN list rs : Int)
  | [], m, _, _ => by simp [trapN]
  | r :: rs, m, h0, hl => by
    show (rs.foldl (bOne list kind) (bOne list kind m r)).2 = _
    simp only [List.length_cons] at hl
    have hs : (bOne list kind m r).2 = m.2 + (if (runB list r).2 = 3 then 1 else 0) := by
      unfold bOne
      by_cases h1 : (runB list r).2 = 1
      · rw [if_pos h1, if_neg (by omega)]; simp
      · rw [if_neg h1]
        by_cases h3 : (runB list r).2 = 3
        · rw [if_pos h3, if_pos h3]; show IntKind.i64.wrap (m.2 + 1) = _; rw [IntKind.wrap_i64]; omega
        · rw [if_neg h3, if_neg h3]; simp
    have ht : trapN list (r :: rs) = (if (runB list r).2 = 3 then 1 else 0) + trapN list rs := by
      unfold trapN
      rw [List.filter_cons]
      by_cases h3 : (runB list r).2 = 3
      · rw [if_pos (by simpa using h3), if_pos h3, List.length_cons]; omega
      · rw [if_neg (by simpa using h3), if_neg h3]; omega
    rw [bAll_traps list kind rs _ (by rw [hs]; split <;> omega) (by rw [hs]; split <;> omega), hs, ht]
    split <;> omega

theorem valsOf_cons (p : Int × ValV) (ks : List (Int × ValV)) (k : Int) : valsOf (p :: ks) k = if p.1 = k then p.2 :: valsOf ks k else valsOf ks k := by
  unfold valsOf
  rw [List.filter_cons]
  by_cases h : p.1 = k
  · rw [if_pos (by simpa using h), if_pos h]; rfl
  · rw [if_neg (by simpa using h), if_neg h]
theorem valsOf_append (a b : List (Int × ValV)) (k : Int) : valsOf (a ++ b) k = valsOf a k ++ valsOf b k := by unfold valsOf; rw [List.filter_append, List.map_append]
def TabForm (kind : Int) (m : Tab) : Prop := (m.map (·.1)).Nodup ∧ ∀ k v, getM m k = some v → Form kind v
theorem TabForm.getD {kind : Int} {m : Tab} (h : TabForm kind m) (k : Int) : Form kind ((getM m k).getD val0) := by
  cases hg : getM m k with
  | none => exact Form.zero
  | some v => exact h.2 k v hg
theorem put_form {kind : Int} {m : Tab} {k : Int} {v : ValV} (hk : knownB kind = true) (hm : TabForm kind m) (hv : Form kind v) : TabForm kind (putT kind m k v) := by
  refine ⟨setM_nodup hm.1, fun k' v' h => ?_⟩
  unfold putT at h
  rw [getM_set hm.1] at h
  split at h
  · cases h
    rw [mergeV_form (hm.getD k) hv]
    exact Form.join hk (hm.getD k) hv
  · exact hm.2 k' v' h
theorem put_fold {kind : Int} (hk : knownB kind = true) : ∀ (ks : List (Int × ValV)) (m : Tab), (∀ p ∈ ks, Form kind p.2) → TabForm kind m →
    TabForm kind (ks.foldl (fun m p => putT kind m p.1 p.2) m) ∧ ∀ k, getM (ks.foldl (fun m p => putT kind m p.1 p.2) m) k = if valsOf ks k = [] then getM m k else some ((valsOf ks k).foldl (joinV kind) ((getM m k).getD val0))
  | [], m, _, hm => ⟨hm, fun k => rfl⟩
  | p :: ks, m, hf, hm => by
    have hp := hf p (by simp)
    have hm' := put_form (k := p.1) hk hm hp
    obtain ⟨a1, a2⟩ := put_fold hk ks (putT kind m p.1 p.2) (fun q hq => hf q (by simp [hq])) hm'
    refine ⟨a1, fun k => ?_⟩
    show getM (ks.foldl (fun m p => putT kind m p.1 p.2) (putT kind m p.1 p.2)) k = _
    rw [a2 k, valsOf_cons]
    have hset : getM (putT kind m p.1 p.2) k = if k = p.1 then some (joinV kind ((getM m p.1).getD val0) p.2) else getM m k := by
      unfold putT; rw [getM_set hm.1, mergeV_form (hm.getD p.1) hp]
    by_cases h : p.1 = k
    · rw [if_pos h, hset, if_pos h.symm]
      subst h
      simp only [Option.getD_some, List.foldl_cons]
      by_cases hn : valsOf ks p.1 = []
      · rw [if_pos hn, hn]; simp
      · rw [if_neg hn]; simp
    · have hset' : getM (putT kind m p.1 p.2) k = getM m k := by rw [hset, if_neg (show ¬ k = p.1 from fun e => h e.symm)]
      rw [if_neg h, hset']
theorem tab_nil {kind : Int} : TabForm kind [] := ⟨by simp, fun k v h => by simp [getM] at h⟩
theorem kept_form {list : List OpV} {kind : Int} {rs : List RecV} (hl : ∀ o ∈ list, o.Fits) (hf : ∀ x ∈ rs, x.Fits) : ∀ p ∈ keptL list kind rs, Form kind p.2 := by
  intro p hp
  unfold keptL at hp
  obtain ⟨r, hr, he⟩ := List.mem_filterMap.1 hp
  split at he
  · cases he
    exact Form.of (runB_fits hl (hf r hr)).2
  · cases he
/-- a batch's value of a key is the sum of its parts -/
theorem batch_get {list : List OpV} {kind : Int} {rs : List RecV} (hk : knownB kind = true) (hl : ∀ o ∈ list, o.Fits) (hf : ∀ x ∈ rs, x.Fits) :
    TabForm kind (bAll list kind rs).1 ∧ ∀ k, getM (bAll list kind rs).1 k = if valsOf (keptL list kind rs) k = [] then none else some (sumV kind (valsOf (keptL list kind rs) k)) := by
  unfold bAll
  rw [bAll_tab]
  obtain ⟨a1, a2⟩ := put_fold hk (keptL list kind rs) [] (kept_form hl hf) tab_nil
  exact ⟨a1, fun k => by rw [a2 k]; rfl⟩

/-! ### sums -/
theorem fold_form {kind : Int} (hk : knownB kind = true) : ∀ (vs : List ValV) (a : ValV), Form kind a → (∀ v ∈ vs, Form kind v) → Form kind (vs.foldl (joinV kind) a)
  | [], a, ha, _ => ha
  | v :: vs, a, ha, h => fold_form hk vs _ (Form.join hk ha (h v (by simp))) fun x hx => h x (by simp [hx])
theorem fold_start {kind : Int} (hk : knownB kind = true) : ∀ (vs : List ValV) (a : ValV), Form kind a → (∀ v ∈ vs, Form kind v) → vs.foldl (joinV kind) a = joinV kind a (sumV kind vs)
  | [], a, ha, _ => (join_zero ha).2.symm
  | v :: vs, a, ha, h => by
    have hv := h v (by simp)
    have hr : ∀ x ∈ vs, Form kind x := fun x hx => h x (by simp [hx])
    unfold sumV
    rw [List.foldl_cons, List.foldl_cons, fold_start hk vs _ (Form.join hk ha hv) hr, (join_zero hv).1, fold_start hk vs v hv hr]
    exact join_assoc hk ha hv (fold_form hk vs val0 Form.zero hr)
theorem sum_append {kind : Int} (hk : knownB kind = true) {a b : List ValV} (ha : ∀ v ∈ a, Form kind v) (hb : ∀ v ∈ b, Form kind v) : sumV kind (a ++ b) = joinV kind (sumV kind a) (sumV kind b) := by
  show (a ++ b).foldl (joinV kind) val0 = _
  rw [List.foldl_append]
  exact fold_start hk b _ (fold_form hk a val0 Form.zero ha) hb
theorem sum_perm {kind : Int} (hk : knownB kind = true) {a b : List ValV} (h : a.Perm b) : ∀ (z : ValV), Form kind z → (∀ v ∈ a, Form kind v) → a.foldl (joinV kind) z = b.foldl (joinV kind) z := by
  induction h with
  | nil => intro z _ _; rfl
  | cons x _ ih => intro z hz hf; exact ih _ (Form.join hk hz (hf x (by simp))) fun v hv => hf v (by simp [hv])
  | swap x y l =>
    intro z hz hf
    have hx := hf x (by simp); have hy := hf y (by simp)
    simp only [List.foldl_cons]
    rw [join_assoc hk hz hy hx, join_assoc hk hz hx hy, join_comm hy hx]
  | trans h1 _ ih1 ih2 => intro z hz hf; rw [ih1 z hz hf, ih2 z hz fun v hv => hf v (h1.mem_iff.2 hv)]
end Go.Sx
/- A batch's table is sound, and no longer than the records. Conditions: none. -/
namespace Go.Sx
set_option linter.unusedSimpArgs false
set_option linter.unusedVariables false

theorem join_has' {kind : Int} {a b : ValV} (h : a.has = true ∨ b.has = true) : (joinV kind a b).has = true := by
  unfold joinV
  split
  · rename_i h1
    rcases h with h | h
    · rw [h1] at h; cases h
    · exact h
  split
  · rename_i h1 h2
    rcases h with h | h
    · exact h
    · rw [h2] at h; cases h
  split
  · exact ofV_has (by decide)
  split
  · exact ofV_has (by decide)
  · rfl
theorem fold_has {kind : Int} : ∀ (vs : List ValV) (a : ValV), (a.has = true ∨ vs ≠ []) → (∀ v ∈ vs, v.has = true) → (vs.foldl (joinV kind) a).has = true
  | [], a, h, _ => h.resolve_right (fun h => h rfl)
  | v :: vs, a, _, hv => fold_has vs _ (.inl (join_has' (.inr (hv v (by simp))))) fun x hx => hv x (by simp [hx])
theorem kept_has {list : List OpV} {kind : Int} {rs : List RecV} (hk : knownB kind = true) : ∀ p ∈ keptL list kind rs, p.2.has = true := by
  intro p hp
  unfold keptL at hp
  obtain ⟨r, hr, he⟩ := List.mem_filterMap.1 hp
  split at he
  · cases he; exact ofV_has hk
  · cases he
theorem vals_mem {ks : List (Int × ValV)} {k : Int} {v : ValV} (h : v ∈ valsOf ks k) : ∃ p ∈ ks, p.1 = k ∧ p.2 = v := by
  unfold valsOf at h
  obtain ⟨p, hp, rfl⟩ := List.mem_map.1 h
  rw [List.mem_filter] at hp
  exact ⟨p, hp.1, by simpa using hp.2, rfl⟩
theorem table_sound {list : List OpV} {kind : Int} {rs : List RecV} (hk : knownB kind = true) (hl : ∀ o ∈ list, o.Fits) (hf : ∀ x ∈ rs, x.Fits) : soundB (tableT (bAll list kind rs).1) = true := by
  obtain ⟨h1, h2⟩ := batch_get (kind := kind) hk hl hf
  have hS := table_same h1.1
  unfold soundB
  rw [decide_eq_true_eq]
  refine ⟨fun x hx => ?_, hS.rise⟩
  have hg := (hS.mem x.key x.val).1 hx
  rw [h2 x.key] at hg
  split at hg
  · cases hg
  · rename_i hne
    have he := Option.some.inj hg
    have : (sumV kind (valsOf (keptL list kind rs) x.key)).has = true := fold_has _ _ (.inr hne) fun v hv => by
      obtain ⟨p, hp, -, rfl⟩ := vals_mem hv
      exact kept_has hk p hp
    rw [he] at this
    exact this
theorem setM_lenV {m : Tab} {k : Int} {v : ValV} : (setM m k v).length ≤ m.length + 1 := by unfold setM; split <;> simp
theorem put_len {kind : Int} : ∀ (ks : List (Int × ValV)) (m : Tab), (ks.foldl (fun m p => putT kind m p.1 p.2) m).length ≤ m.length + ks.length
  | [], m => by simp
  | p :: ks, m => by
    have h1 := put_len (kind := kind) ks (putT kind m p.1 p.2)
    have h2 : (putT kind m p.1 p.2).length ≤ m.length + 1 := setM_lenV
    simp only [List.foldl_cons, List.length_cons] at h1 ⊢
    omega
theorem batch_len (list : List OpV) (kind : Int) (rs : List RecV) : (bAll list kind rs).1.length ≤ rs.length := by
  unfold bAll
  rw [bAll_tab]
  have h1 := put_len (kind := kind) (keptL list kind rs) ([] : Tab)
  have h2 : (keptL list kind rs).length ≤ rs.length := List.length_filterMap_le _ _
  simp only [List.length_nil] at h1
  show ((keptL list kind rs).foldl (fun m p => putT kind m p.1 p.2) []).length ≤ rs.length
  omega
theorem tableT_lenV (m : Tab) : (tableT m).length = m.length := by unfold tableT; rw [List.length_map, (sortL_perm _).length_eq, List.length_map]
/-- two batches whose parts are the same, key by key, are one table -/
theorem table_eq {list : List OpV} {kind : Int} {rs rs' : List RecV} (hk : knownB kind = true) (hl : ∀ o ∈ list, o.Fits) (hf : ∀ x ∈ rs, x.Fits) (hf' : ∀ x ∈ rs', x.Fits) (h : (keptL list kind rs).Perm (keptL list kind rs')) : tableT (bAll list kind rs).1 = tableT (bAll list kind rs').1 := by
  obtain ⟨a1, a2⟩ := batch_get (kind := kind) hk hl hf
  obtain ⟨b1, b2⟩ := batch_get (kind := kind) hk hl hf'
  refine Same.uniq (table_same a1.1) (table_same b1.1) fun k => ?_
  rw [a2 k, b2 k]
  have hp : (valsOf (keptL list kind rs) k).Perm (valsOf (keptL list kind rs') k) := (h.filter _).map _
  have hform : ∀ v ∈ valsOf (keptL list kind rs) k, Form kind v := fun v hv => by
    obtain ⟨p, hp, -, rfl⟩ := vals_mem hv
    exact kept_form hl hf p hp
  by_cases he : valsOf (keptL list kind rs) k = []
  · have he' : valsOf (keptL list kind rs') k = [] := by rw [he] at hp; exact hp.symm.eq_nil
    rw [if_pos he, if_pos he']
  · have he' : valsOf (keptL list kind rs') k ≠ [] := fun e => he (by rw [e] at hp; exact hp.eq_nil)
    rw [if_neg he, if_neg he']
    congr 1
    exact sum_perm hk hp val0 Form.zero hform
theorem kept_perm {list : List OpV} {kind : Int} {rs rs' : List RecV} (h : rs.Perm rs') : (keptL list kind rs).Perm (keptL list kind rs') := h.filterMap _
theorem trap_perm {list : List OpV} {rs rs' : List RecV} (h : rs.Perm rs') : trapN list rs = trapN list rs' := by unfold trapN; exact (h.filter _).length_eq
end Go.Sx
/- Batches cut in two, thinned out, counted, key by key. Conditions: none. -/
namespace Go.Sx

theorem keptL_append (list : List OpV) (kind : Int) (a b : List RecV) : keptL list kind (a ++ b) = keptL list kind a ++ keptL list kind b := by unfold keptL; rw [List.filterMap_append]
theorem trapN_append (list : List OpV) (a b : List RecV) : trapN list (a ++ b) = trapN list a + trapN list b := by unfold trapN; rw [List.filter_append, List.length_append]
theorem vals_form {list : List OpV} {kind : Int} {rs : List RecV} (hl : ∀ o ∈ list, o.Fits) (hf : ∀ x ∈ rs, x.Fits) (k : Int) : ∀ v ∈ valsOf (keptL list kind rs) k, Form kind v := by
  intro v hv
  obtain ⟨p, hp, -, rfl⟩ := vals_mem hv
  exact kept_form hl hf p hp
theorem sum_form {list : List OpV} {kind : Int} {rs : List RecV} (hk : knownB kind = true) (hl : ∀ o ∈ list, o.Fits) (hf : ∀ x ∈ rs, x.Fits) (k : Int) : Form kind (sumV kind (valsOf (keptL list kind rs) k)) := fold_form hk _ _ Form.zero (vals_form hl hf k)
theorem getP_table {m : Tab} (hn : (m.map (·.1)).Nodup) (k : Int) : getP (tableT m) k = getM m k := by
  have h := table_same hn
  cases hm : getM m k with
  | some v => exact (getP_mem h.rise).1 ((h.mem k v).2 hm)
  | none =>
    cases hg : getP (tableT m) k with
    | none => rfl
    | some v => have := (h.mem k v).1 ((getP_mem h.rise).2 hg); rw [hm] at this; cases this
theorem parts_table {list : List OpV} {kind : Int} {a b : List RecV} (hk : knownB kind = true) (hl : ∀ o ∈ list, o.Fits) (ha : ∀ x ∈ a, x.Fits) (hb : ∀ x ∈ b, x.Fits) :
    tableT (addT kind [] (tableT (bAll list kind a).1 ++ tableT (bAll list kind b).1)) = tableT (bAll list kind (a ++ b)).1 := by
  have hab : ∀ x ∈ a ++ b, x.Fits := fun x hx => (List.mem_append.1 hx).elim (ha x) (hb x)
  obtain ⟨f1, g1⟩ := batch_get (rs := a) hk hl ha
  obtain ⟨f2, g2⟩ := batch_get (rs := b) hk hl hb
  obtain ⟨f3, g3⟩ := batch_get (rs := a ++ b) hk hl hab
  have r1 := (table_same f1.1).rise
  have r2 := (table_same f2.1).rise
  rw [add_same r1 r2]
  obtain ⟨h1, -, -, h4⟩ := mergeL_spec kind _ _ _ (Nat.le_refl _) r1 r2
  refine Same.eq ⟨f3.1, h1, fun k v => ?_⟩
  rw [getP_mem h1, h4, getP_table f1.1, getP_table f2.1, g1, g2, g3, keptL_append, valsOf_append]
  have va := vals_form (kind := kind) hl ha k
  have vb := vals_form (kind := kind) hl hb k
  have sa := sum_form hk hl ha k
  have sb := sum_form hk hl hb k
  have hsum := sum_append hk va vb
  generalize valsOf (keptL list kind a) k = A at *
  generalize valsOf (keptL list kind b) k = B at *
  rw [hsum]
  cases A with
  | nil =>
    cases B with
    | nil => simp [bothV]
    | cons y B => simp [bothV, sumV]; simp [sumV] at sb; rw [(join_zero sb).1, sb.fit]
  | cons x A =>
    cases B with
    | nil => simp [bothV, sumV]; simp [sumV] at sa; rw [(join_zero sa).2, sa.fit]
    | cons y B =>
      simp only [List.cons_append, reduceIte, reduceCtorEq, bothV]
      rw [mergeV_form sa sb]

def keptR (list : List OpV) (rs : List RecV) : List RecV := rs.filter fun r => (runB list r).2 == 1
theorem keptL_kept (list : List OpV) (kind : Int) (rs : List RecV) : keptL list kind (keptR list rs) = keptL list kind rs := by
  induction rs with
  | nil => rfl
  | cons r rs ih =>
    unfold keptL keptR at *
    by_cases h : (runB list r).2 = 1
    · rw [List.filter_cons_of_pos (by simpa using h), List.filterMap_cons, List.filterMap_cons, if_pos h]; simp only [ih]
    · rw [List.filter_cons_of_neg (by simpa using h), List.filterMap_cons, if_neg h]; simp only [ih]
theorem trapN_kept (list : List OpV) (rs : List RecV) : trapN list (keptR list rs) = 0 := by
  unfold trapN keptR
  rw [List.length_eq_zero_iff, List.filter_eq_nil_iff]
  intro r hr
  rw [List.mem_filter] at hr
  have h1 : (runB list r).2 = 1 := by simpa using hr.2
  rw [h1]; decide
theorem keptL_len (list : List OpV) (kind : Int) (rs : List RecV) : (keptL list kind rs).length = (keptR list rs).length := by
  induction rs with
  | nil => rfl
  | cons r rs ih =>
    unfold keptL keptR at *
    by_cases h : (runB list r).2 = 1
    · rw [List.filter_cons_of_pos (by simpa using h), List.filterMap_cons, if_pos h]; simp only [List.length_cons, ih]
    · rw [List.filter_cons_of_neg (by simpa using h), List.filterMap_cons, if_neg h]; simp only [ih]
theorem keptR_snoc (list : List OpV) (rs : List RecV) (r : RecV) : keptR list (rs ++ [r]) = if (runB list r).2 = 1 then keptR list rs ++ [r] else keptR list rs := by
  unfold keptR
  rw [List.filter_append]
  by_cases h : (runB list r).2 = 1
  · rw [if_pos h, List.filter_cons_of_pos (by simpa using h)]; rfl
  · rw [if_neg h, List.filter_cons_of_neg (by simpa using h)]; simp

/-! ### keys alone -/
def keyPut (ks : List Int) (k : Int) : List Int := if ks.any (fun x => x == k) then ks else ks ++ [k]
theorem setM_keys (m : Tab) (k : Int) (v : ValV) : (setM m k v).map (·.1) = keyPut (m.map (·.1)) k := by
  unfold setM keyPut
  have e : (m.map (·.1)).any (fun x => x == k) = m.any (fun p => p.1 == k) := by rw [List.any_map]; rfl
  rw [e]
  by_cases h : m.any (fun p => p.1 == k) = true
  · rw [if_pos h, if_pos h, List.map_map]
    apply List.map_congr_left
    intro p _
    show (if p.1 == k then (k, v) else p).1 = p.1
    by_cases hp : p.1 = k
    · rw [if_pos (by simpa using hp)]; exact hp.symm
    · rw [if_neg (by simpa using hp)]
  · rw [if_neg h, if_neg h, List.map_append]; rfl
theorem fold_keys (kind : Int) : ∀ (ks : List (Int × ValV)) (m : Tab), (ks.foldl (fun m p => putT kind m p.1 p.2) m).map (·.1) = (ks.map (·.1)).foldl keyPut (m.map (·.1))
  | [], _ => rfl
  | p :: ks, m => by
    rw [List.foldl_cons, fold_keys kind ks, List.map_cons, List.foldl_cons]
    unfold putT; rw [setM_keys]
theorem kept_keys (list : List OpV) (k1 k2 : Int) (rs : List RecV) : (keptL list k1 rs).map (·.1) = (keptL list k2 rs).map (·.1) := by
  induction rs with
  | nil => rfl
  | cons r rs ih =>
    unfold keptL at *
    by_cases h : (runB list r).2 = 1
    · rw [List.filterMap_cons, List.filterMap_cons, if_pos h, if_pos h]; simp only [List.map_cons, ih]
    · rw [List.filterMap_cons, List.filterMap_cons, if_neg h, if_neg h]; exact ih
theorem batch_keys (list : List OpV) (k1 k2 : Int) (rs : List RecV) : (bAll list k1 rs).1.map (·.1) = (bAll list k2 rs).1.map (·.1) := by
  unfold bAll
  rw [bAll_tab, bAll_tab, fold_keys, fold_keys, kept_keys list k1 k2]
theorem table_len_any (list : List OpV) (k1 k2 : Int) (rs : List RecV) : (tableT (bAll list k1 rs).1).length = (tableT (bAll list k2 rs).1).length := by
  rw [tableT_lenV, tableT_lenV]
  have := congrArg List.length (batch_keys list k1 k2 rs)
  simpa using this

/-! ### counts -/
def bitsT (t : List PairV) : Int := (t.map (·.bits)).sum
def bitsM (m : Tab) : Int := (m.map fun p => p.2.bits).sum
theorem sum_perm_int {a b : List Int} (h : a.Perm b) : a.sum = b.sum := by
  induction h with
  | nil => rfl
  | cons x _ ih => simp [ih]
  | swap x y l => simp only [List.sum_cons]; omega
  | trans _ _ h1 h2 => exact h1.trans h2
theorem map_get_bits : ∀ {m : Tab}, (m.map (·.1)).Nodup → (m.map (·.1)).map (fun k => ((getM m k).getD val0).bits) = m.map fun p => p.2.bits := by
  intro m hn
  rw [List.map_map]
  apply List.map_congr_left
  intro p hp
  show ((getM m p.1).getD val0).bits = p.2.bits
  rw [(getM_mem hn).2 hp]; rfl
theorem bits_table {m : Tab} (hn : (m.map (·.1)).Nodup) : bitsT (tableT m) = bitsM m := by
  unfold bitsT bitsM tableT
  rw [List.map_map, ← map_get_bits hn]
  exact sum_perm_int ((sortL_perm _).map _)
theorem bits_set {k : Int} {v : ValV} : ∀ {m : Tab}, (m.map (·.1)).Nodup → bitsM (setM m k v) = bitsM m - ((getM m k).getD val0).bits + v.bits := by
  have key : ∀ {m : Tab}, (m.map (·.1)).Nodup → m.any (fun p => p.1 == k) = true → bitsM (m.map fun p => if p.1 == k then (k, v) else p) = bitsM m - ((getM m k).getD val0).bits + v.bits := by
    intro m
    induction m with
    | nil => intro _ h; simp at h
    | cons p m ih =>
      intro hn h
      have hn' : p.1 ∉ m.map (·.1) ∧ (m.map (·.1)).Nodup := List.nodup_cons.1 hn
      by_cases hp : p.1 = k
      · have hno : m.map (fun p => if p.1 == k then (k, v) else p) = m := by
          conv => rhs; rw [← List.map_id m]
          apply List.map_congr_left
          intro q hq
          have : q.1 ≠ k := fun e => hn'.1 (by rw [hp, ← e]; exact List.mem_map_of_mem hq)
          simp [this]
        have hg : getM (p :: m) k = some p.2 := by unfold getM; rw [List.find?_cons_of_pos (by simpa using hp)]; rfl
        rw [hg, List.map_cons, hno]
        simp only [bitsM, List.map_cons, List.sum_cons, Option.getD_some, hp, beq_self_eq_true, if_true]; omega
      · have hg : getM (p :: m) k = getM m k := by unfold getM; rw [List.find?_cons_of_neg (by simpa using hp)]
        have h2 : m.any (fun p => p.1 == k) = true := by simpa [hp] using h
        have := ih hn'.2 h2
        rw [hg, List.map_cons]
        simp only [bitsM, List.map_cons, List.sum_cons] at *
        have e : (if p.1 == k then (k, v) else p) = p := by simp [hp]
        rw [e]; omega
  intro m hn
  unfold setM
  by_cases h : m.any (fun p => p.1 == k) = true
  · rw [if_pos h]; exact key hn h
  · rw [if_neg h]
    have hg : getM m k = none := by
      cases hm : getM m k with
      | none => rfl
      | some x =>
        exfalso; apply h
        have h1 : k ∈ m.map (·.1) := getM_key.1 (by rw [hm]; rfl)
        rw [List.mem_map] at h1
        obtain ⟨p, hp, e⟩ := h1
        rw [List.any_eq_true]; exact ⟨p, hp, by simpa using e⟩
    rw [hg]
    simp only [bitsM, List.map_append, List.sum_append, List.map_cons, List.map_nil, List.sum_cons, List.sum_nil, Option.getD_none, val0]; omega
theorem count_fold : ∀ (ks : List (Int × ValV)) (m : Tab), (∀ p ∈ ks, p.2 = ⟨true, 1⟩) → TabForm 1 m → IntKind.u64.wrap (bitsM (ks.foldl (fun m p => putT 1 m p.1 p.2) m)) = IntKind.u64.wrap (bitsM m + ks.length)
  | [], m, _, _ => by simp
  | p :: ks, m, h, hm => by
    have hp := h p (by simp)
    have hf : Form 1 p.2 := by rw [hp]; exact Form.of (kind := 1) (x := 0) (by decide)
    rw [List.foldl_cons, count_fold ks _ (fun q hq => h q (by simp [hq])) (put_form (by decide) hm hf)]
    unfold putT
    rw [bits_set hm.1]
    have ho := hm.getD p.1
    generalize (getM m p.1).getD val0 = o at ho
    rw [mergeV_form ho hf, hp]
    have hb : IntKind.u64.wrap (joinV 1 o ⟨true, 1⟩).bits = IntKind.u64.wrap (o.bits + 1) := by
      cases hh : o.has with
      | false => rw [ho.empty hh]; rfl
      | true =>
        rw [join_has hh rfl]
        simp only [if_false, show ¬ ((1 : Int) = 3) by decide, show ¬ ((1 : Int) = 4) by decide]
        rw [IntKind.wrap_u64, IntKind.wrap_u64]; omega
    simp only [List.length_cons]
    rw [IntKind.wrap_u64, IntKind.wrap_u64] at *
    omega
theorem count_all {list : List OpV} {rs : List RecV} (hl : ∀ o ∈ list, o.Fits) (hf : ∀ x ∈ rs, x.Fits) : IntKind.u64.wrap (bitsT (tableT (bAll list 1 rs).1)) = IntKind.u64.wrap ((keptR list rs).length : Int) := by
  obtain ⟨f1, -⟩ := batch_get (rs := rs) (kind := 1) (by decide) hl hf
  rw [bits_table f1.1]
  unfold bAll
  rw [bAll_tab, count_fold _ _ (fun p hp => ?_) tab_nil, keptL_len]
  · simp [bitsM]
  · unfold keptL at hp
    rw [List.mem_filterMap] at hp
    obtain ⟨r, -, hr⟩ := hp
    split at hr
    · cases hr; rfl
    · cases hr

/-! ### one key -/
theorem one_fold {list : List OpV} {kind : Int} (hk : knownB kind = true) (hl : ∀ o ∈ list, o.Fits) (key : Int) : ∀ (rs : List RecV) (z : ValV), (∀ x ∈ rs, x.Fits) → Form kind z →
    rs.foldl (fun v r => if (runB list r).2 = 1 ∧ (runB list r).1.key = key then mergeV kind v (ofV kind (runB list r).1.val) else v) z = (valsOf (keptL list kind rs) key).foldl (joinV kind) z
  | [], _, _, _ => rfl
  | r :: rs, z, hf, hz => by
    have hr := hf r (by simp)
    have ho : Form kind (ofV kind (runB list r).1.val) := Form.of (runB_fits hl hr).2
    have ih := fun z hz => one_fold hk hl key rs z (fun x hx => hf x (by simp [hx])) hz
    rw [List.foldl_cons]
    by_cases h1 : (runB list r).2 = 1
    · have e : keptL list kind (r :: rs) = ((runB list r).1.key, ofV kind (runB list r).1.val) :: keptL list kind rs := by unfold keptL; rw [List.filterMap_cons, if_pos h1]
      rw [e, valsOf_cons]
      by_cases h2 : (runB list r).1.key = key
      · rw [if_pos ⟨h1, h2⟩, if_pos h2, List.foldl_cons, ih _ (by rw [mergeV_form hz ho]; exact hz.join hk ho), mergeV_form hz ho]
      · rw [if_neg (fun h => h2 h.2), if_neg h2, ih z hz]
    · have e : keptL list kind (r :: rs) = keptL list kind rs := by unfold keptL; rw [List.filterMap_cons, if_neg h1]
      rw [e, if_neg (fun h => h1 h.1), ih z hz]
def oneV (list : List OpV) (kind : Int) (key : Int) (rs : List RecV) : ValV := rs.foldl (fun v r => if (runB list r).2 = 1 ∧ (runB list r).1.key = key then mergeV kind v (ofV kind (runB list r).1.val) else v) val0
theorem oneV_snoc (list : List OpV) (kind : Int) (key : Int) (rs : List RecV) (r : RecV) : oneV list kind key (rs ++ [r]) = if (runB list r).2 = 1 ∧ (runB list r).1.key = key then mergeV kind (oneV list kind key rs) (ofV kind (runB list r).1.val) else oneV list kind key rs := by unfold oneV; rw [List.foldl_append]; rfl
theorem oneV_fits {list : List OpV} {kind : Int} (hl : ∀ o ∈ list, o.Fits) (key : Int) : ∀ (rs : List RecV) (z : ValV), (∀ x ∈ rs, x.Fits) → z.Fits → (rs.foldl (fun v r => if (runB list r).2 = 1 ∧ (runB list r).1.key = key then mergeV kind v (ofV kind (runB list r).1.val) else v) z).Fits
  | [], _, _, h => h
  | r :: rs, z, hf, hz => by
    rw [List.foldl_cons]
    refine oneV_fits hl key rs _ (fun x hx => hf x (by simp [hx])) ?_
    split
    · exact mergeV_fits hz (ofV_fits (runB_fits hl (hf r (by simp))).2)
    · exact hz
theorem one_table {list : List OpV} {kind : Int} {rs : List RecV} (hk : knownB kind = true) (hl : ∀ o ∈ list, o.Fits) (hf : ∀ x ∈ rs, x.Fits) {x : PairV} (hx : x ∈ tableT (bAll list kind rs).1) :
    oneV list kind x.key rs = x.val ∧ findT (tableT (bAll list kind rs).1) x.key = x.val := by
  obtain ⟨f1, g1⟩ := batch_get (rs := rs) hk hl hf
  have hS := table_same f1.1
  have hm : getM (bAll list kind rs).1 x.key = some x.val := (hS.mem _ _).1 (by rw [pairOf_val]; exact hx)
  constructor
  · unfold oneV
    rw [one_fold hk hl x.key rs val0 hf Form.zero]
    rw [g1] at hm
    split at hm
    · cases hm
    · exact Option.some.inj hm
  · have hP : getP (tableT (bAll list kind rs).1) x.key = some x.val := by rw [getP_table f1.1]; exact hm
    unfold getP at hP
    unfold findT
    cases hfd : (tableT (bAll list kind rs).1).find? (fun p => p.key == x.key) with
    | none => rw [hfd] at hP; cases hP
    | some y => rw [hfd] at hP; exact Option.some.inj hP
end Go.Sx
