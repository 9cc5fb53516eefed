import Derived.Test.YtcpkneemhfnanaaGreatSxFh
import Derived.Test.YtcpkneemhfnanaaGreatSxFc
import Derived.Test.YtcpkneemhfnanaaGreatSxR
import Derived.Test.YtcpkneemhfnanaaGreatSxSt
/- Values of aggregates and tables, in lists. Conditions: none. -/
namespace Go.Sx
set_option linter.unusedSimpArgs false
set_option linter.unusedVariables false

structure ValV where
  has : Bool
  bits : Int
deriving DecidableEq
def val0 : ValV := ⟨false, 0⟩
def ValV.Fits (v : ValV) : Prop := 0 ≤ v.bits ∧ v.bits < u64m
@[reducible] def ValV.v (v : ValV) : Value := .agg #[.bool v.has, .int .u64 v.bits]
def PairV.val (x : PairV) : ValV := ⟨x.has, x.bits⟩
def pairOf (k : Int) (v : ValV) : PairV := ⟨k, v.has, v.bits⟩

def knownB (kind : Int) : Bool := decide (1 ≤ kind ∧ kind ≤ 4)
def ofV (kind : Int) (x : Nat) : ValV := if kind = 1 then ⟨true, 1⟩ else if kind = 2 then ⟨true, IntKind.u64.wrap (wholeF x)⟩ else if kind = 3 ∨ kind = 4 then ⟨true, (canonF x : Int)⟩ else val0
def fitV (kind : Int) (v : ValV) : ValV := if knownB kind = false ∨ v.has = false then val0 else if kind = 3 ∨ kind = 4 then ofV kind v.bits.toNat else v
def leastF (a b : Nat) : Nat := canonF (if ordN a b > 0 then b else a)
def mostF (a b : Nat) : Nat := canonF (if ordN a b < 0 then b else a)
def joinV (kind : Int) (a b : ValV) : ValV :=
  if a.has = false then b else if b.has = false then a else if kind = 3 then ofV 3 (leastF a.bits.toNat b.bits.toNat) else if kind = 4 then ofV 4 (mostF a.bits.toNat b.bits.toNat) else ⟨true, IntKind.u64.wrap (a.bits + b.bits)⟩
def mergeV (kind : Int) (a b : ValV) : ValV := joinV kind (fitV kind a) (fitV kind b)

theorem wrap_fits (n : Int) : 0 ≤ IntKind.u64.wrap n ∧ IntKind.u64.wrap n < u64m := by rw [IntKind.wrap_u64]; simp only [u64m]; omega
theorem ofV_fits {kind : Int} {x : Nat} (hx : x < 18446744073709551616) : (ofV kind x).Fits := by
  unfold ofV ValV.Fits
  have := canonF_lt hx
  split
  · exact ⟨by decide, by decide⟩
  split
  · exact wrap_fits _
  split
  · simp only [u64m]; omega
  · exact ⟨by decide, by decide⟩
theorem bits_lt {v : ValV} (h : v.Fits) : v.bits.toNat < 18446744073709551616 := by
  obtain ⟨h1, h2⟩ := h
  simp only [u64m] at h2; omega
theorem fitV_fits {kind : Int} {v : ValV} (h : v.Fits) : (fitV kind v).Fits := by
  unfold fitV
  split
  · exact ⟨by decide, by decide⟩
  split
  · exact ofV_fits (bits_lt h)
  · exact h
theorem leastF_lt {a b : Nat} (ha : a < 18446744073709551616) (hb : b < 18446744073709551616) : leastF a b < 18446744073709551616 := by
  unfold leastF; split
  · exact canonF_lt hb
  · exact canonF_lt ha
theorem mostF_lt {a b : Nat} (ha : a < 18446744073709551616) (hb : b < 18446744073709551616) : mostF a b < 18446744073709551616 := by
  unfold mostF; split
  · exact canonF_lt hb
  · exact canonF_lt ha
theorem joinV_fits {kind : Int} {a b : ValV} (ha : a.Fits) (hb : b.Fits) : (joinV kind a b).Fits := by
  unfold joinV
  split
  · exact hb
  split
  · exact ha
  split
  · exact ofV_fits (leastF_lt (bits_lt ha) (bits_lt hb))
  split
  · exact ofV_fits (mostF_lt (bits_lt ha) (bits_lt hb))
  · exact wrap_fits _
theorem mergeV_fits {kind : Int} {a b : ValV} (ha : a.Fits) (hb : b.Fits) : (mergeV kind a b).Fits := joinV_fits (fitV_fits ha) (fitV_fits hb)

theorem ofV_has {kind : Int} {x : Nat} (h : knownB kind = true) : (ofV kind x).has = true := by
  unfold knownB at h
  simp only [decide_eq_true_eq] at h
  unfold ofV
  split
  · rfl
  split
  · rfl
  rw [if_pos (by omega)]
theorem fit_of {kind : Int} {x : Nat} : fitV kind (ofV kind x) = ofV kind x := by
  unfold fitV
  cases hk : knownB kind
  · rw [if_pos (.inl rfl)]
    unfold knownB at hk
    simp only [decide_eq_false_iff_not] at hk
    unfold ofV; rw [if_neg (by omega), if_neg (by omega), if_neg (by omega)]
  · rw [if_neg (by rw [ofV_has hk]; simp)]
    split
    · rename_i h
      have e : ofV kind x = ⟨true, (canonF x : Int)⟩ := by unfold ofV; rw [if_neg (by omega), if_neg (by omega), if_pos h]
      rw [e]
      show ofV kind ((canonF x : Nat) : Int).toNat = _
      rw [Int.toNat_natCast]
      unfold ofV; rw [if_neg (by omega), if_neg (by omega), if_pos h, canonF_canon]
    · rfl
theorem fit_fit {kind : Int} {v : ValV} : fitV kind (fitV kind v) = fitV kind v := by
  by_cases h1 : knownB kind = false ∨ v.has = false
  · have e : fitV kind v = val0 := by unfold fitV; rw [if_pos h1]
    rw [e]; unfold fitV; rw [if_pos (.inr rfl)]
  · by_cases h2 : kind = 3 ∨ kind = 4
    · have e : fitV kind v = ofV kind v.bits.toNat := by unfold fitV; rw [if_neg h1, if_pos h2]
      rw [e, fit_of]
    · have e : fitV kind v = v := by unfold fitV; rw [if_neg h1, if_neg h2]
      rw [e, e]
theorem fit_zero {kind : Int} : fitV kind val0 = val0 := by unfold fitV; rw [if_pos (.inr rfl)]
theorem merge_zero {kind : Int} {b : ValV} : mergeV kind val0 b = fitV kind b := by unfold mergeV joinV; rw [fit_zero, if_pos (show val0.has = false from rfl)]
theorem merge_fit {kind : Int} {a b : ValV} : mergeV kind (fitV kind a) b = mergeV kind a b := by unfold mergeV; rw [fit_fit]

/-! ### tables -/
/-- the values of keys, in the order of their first stores -/
abbrev Tab : Type := List (Int × ValV)
def putT (kind : Int) (m : Tab) (k : Int) (v : ValV) : Tab := setM m k (mergeV kind ((getM m k).getD val0) v)
/-- a map's pairs, in the keys' order -/
def tableT (m : Tab) : List PairV := (sortL (m.map (·.1))).map fun k => pairOf k ((getM m k).getD val0)
def addT (kind : Int) (m : Tab) (l : List PairV) : Tab := l.foldl (fun m p => putT kind m p.key p.val) m
def soundB (l : List PairV) : Bool := decide ((∀ x ∈ l, x.has = true) ∧ (l.map (·.key)).Pairwise (· < ·))
/-- two tables with the same keys and values are one -/
theorem pairs_ext : ∀ {l r : List PairV}, (l.map (·.key)).Pairwise (· < ·) → (r.map (·.key)).Pairwise (· < ·) → (∀ x, x ∈ l ↔ x ∈ r) → l = r
  | [], [], _, _, _ => rfl
  | [], y :: r, _, _, h => absurd ((h y).2 (by simp)) (by simp)
  | x :: l, [], _, _, h => absurd ((h x).1 (by simp)) (by simp)
  | x :: l, y :: r, hl, hr, h => by
    rw [List.map_cons, List.pairwise_cons] at hl hr
    have kl : ∀ z ∈ l, x.key < z.key := fun z hz => hl.1 _ (List.mem_map_of_mem hz)
    have kr : ∀ z ∈ r, y.key < z.key := fun z hz => hr.1 _ (List.mem_map_of_mem hz)
    have hxy : x = y := by
      rcases List.mem_cons.1 ((h x).1 (by simp)) with e | h1
      · exact e
      · rcases List.mem_cons.1 ((h y).2 (by simp)) with e | h2
        · exact e.symm
        · have := kl y h2; have := kr x h1; omega
    subst hxy
    congr 1
    refine pairs_ext hl.2 hr.2 fun z => ⟨fun hz => ?_, fun hz => ?_⟩
    · rcases List.mem_cons.1 ((h z).1 (by simp [hz])) with e | h'
      · subst e; exact absurd (kl z hz) (by omega)
      · exact h'
    · rcases List.mem_cons.1 ((h z).2 (by simp [hz])) with e | h'
      · subst e; exact absurd (kr z hz) (by omega)
      · exact h'
/-- a rising list of pairs holds what a map holds -/
structure Same (m : Tab) (t : List PairV) : Prop where
  nodup : (m.map (·.1)).Nodup
  rise : (t.map (·.key)).Pairwise (· < ·)
  mem : ∀ k v, pairOf k v ∈ t ↔ getM m k = some v
theorem getM_key {m : Tab} {k : Int} : (getM m k).isSome = true ↔ k ∈ m.map (·.1) := by
  unfold getM
  rw [Option.isSome_map, List.find?_isSome]
  constructor
  · rintro ⟨x, hx, he⟩
    simp only [beq_iff_eq] at he
    exact he ▸ List.mem_map_of_mem (f := (·.1)) hx
  · intro h
    obtain ⟨x, hx, he⟩ := List.mem_map.1 h
    exact ⟨x, hx, by simpa using he⟩
theorem pairOf_val (x : PairV) : pairOf x.key x.val = x := rfl
theorem table_same {m : Tab} (hn : (m.map (·.1)).Nodup) : Same m (tableT m) := by
  have hk : (tableT m).map (·.key) = sortL (m.map (·.1)) := by
    unfold tableT
    rw [List.map_map]
    have : ((fun x : PairV => x.key) ∘ fun k => pairOf k ((getM m k).getD val0)) = id := by funext k; rfl
    rw [this, List.map_id]
  refine ⟨hn, by rw [hk]; exact sortL_strict hn, fun k v => ?_⟩
  unfold tableT
  rw [List.mem_map]
  constructor
  · rintro ⟨k', hk', he⟩
    have e1 : k' = k := congrArg PairV.key he
    subst e1
    have hs := getM_key.2 (sortL_mem.1 hk')
    obtain ⟨v', hv'⟩ := Option.isSome_iff_exists.1 hs
    rw [hv'] at he ⊢
    have h2 : v'.has = v.has := congrArg PairV.has he
    have h3 : v'.bits = v.bits := congrArg PairV.bits he
    have : v' = v := by cases v'; cases v; simp_all
    rw [this]
  · intro h
    refine ⟨k, sortL_mem.2 (getM_key.1 (by rw [h]; rfl)), by rw [h]; rfl⟩
theorem Same.eq {m : Tab} {t : List PairV} (h : Same m t) : t = tableT m := by
  have h2 := table_same h.nodup
  refine pairs_ext h.rise h2.rise fun x => ?_
  rw [← pairOf_val x, h.mem, h2.mem]
theorem getM_set {m : Tab} (hn : (m.map (·.1)).Nodup) {k k' : Int} {v : ValV} : getM (setM m k v) k' = if k' = k then some v else getM m k' := by
  unfold setM getM
  by_cases h : m.any fun p => p.1 == k
  · rw [if_pos h]
    clear hn
    induction m with
    | nil => simp at h
    | cons y r ih =>
      rw [List.map_cons, List.find?_cons, List.find?_cons]
      by_cases hy : y.1 = k
      · subst hy
        simp only [beq_self_eq_true, if_true]
        by_cases hk : k' = y.1
        · subst hk; simp
        · have hk2 : ¬ y.1 = k' := fun e => hk e.symm
          rw [show (y.1 == k') = false from by simpa using hk2, if_neg hk]
          simp only
          congr 1
          rw [List.find?_map]
          have : ((fun p : Int × ValV => p.1 == k') ∘ fun p => if (p.1 == y.1) = true then (y.1, v) else p) = fun p => p.1 == k' := by
            funext p
            simp only [Function.comp]
            by_cases hp : p.1 = y.1
            · rw [if_pos (by simpa using hp)]; simp [hp]
            · rw [if_neg (by simpa using hp)]
          rw [this]
          cases hf : r.find? (fun p => p.1 == k') with
          | none => rfl
          | some p =>
            have := List.find?_some hf
            simp only [beq_iff_eq] at this
            simp only [Option.map_some]
            rw [if_neg (by simp; rw [this]; exact hk)]
      · have hr : (r.any fun p => p.1 == k) = true := by
          rw [List.any_cons, show (y.1 == k) = false from by simpa using hy] at h
          simpa using h
        rw [show (y.1 == k) = false from by simpa using hy]
        simp only [Bool.false_eq_true, if_false]
        by_cases hk : y.1 = k'
        · subst hk
          simp [hy]
        · rw [show (y.1 == k') = false from by simpa using hk]
          exact ih hr
  · rw [if_neg h]
    have hno : m.find? (fun p => p.1 == k) = none := by
      rw [List.find?_eq_none]
      intro x hx hh
      exact h (List.any_eq_true.2 ⟨x, hx, hh⟩)
    rw [List.find?_append]
    by_cases hk : k' = k
    · subst hk; rw [hno, if_pos rfl]; simp
    · rw [if_neg hk]
      have hk2 : ¬ k = k' := fun e => hk e.symm
      cases hf : m.find? (fun p => p.1 == k') with
      | none => simp [hk2]
      | some p => simp
end Go.Sx
/- Tables that are added: two rising lists merged hold what the map holds. Conditions: none. -/
namespace Go.Sx
set_option linter.unusedSimpArgs false
set_option linter.unusedVariables false

def mergeL (kind : Int) : List PairV → List PairV → List PairV
  | [], [] => []
  | x :: l, [] => pairOf x.key (fitV kind x.val) :: mergeL kind l []
  | [], y :: r => pairOf y.key (fitV kind y.val) :: mergeL kind [] r
  | x :: l, y :: r => if x.key < y.key then pairOf x.key (fitV kind x.val) :: mergeL kind l (y :: r) else if y.key < x.key then pairOf y.key (fitV kind y.val) :: mergeL kind (x :: l) r else pairOf x.key (mergeV kind x.val y.val) :: mergeL kind l r
termination_by l r => l.length + r.length

/-- the value of a key in a list, if any -/
def getP (l : List PairV) (k : Int) : Option ValV := (l.find? fun p => p.key == k).map (·.val)
def bothV (kind : Int) : Option ValV → Option ValV → Option ValV
  | none, none => none
  | some a, none => some (fitV kind a)
  | none, some b => some (fitV kind b)
  | some a, some b => some (mergeV kind a b)
abbrev Rise (l : List PairV) : Prop := (l.map (·.key)).Pairwise (· < ·)
theorem getP_cons (x : PairV) (l : List PairV) (k : Int) : getP (x :: l) k = if x.key = k then some x.val else getP l k := by
  unfold getP
  rw [List.find?_cons]
  by_cases h : x.key = k
  · rw [if_pos h, show (x.key == k) = true from by simpa using h]; rfl
  · rw [if_neg h, show (x.key == k) = false from by simpa using h]
theorem getP_lt {l : List PairV} {k : Int} (h : ∀ x ∈ l, k < x.key) : getP l k = none := by
  unfold getP
  rw [List.find?_eq_none.2 (fun x hx => by have := h x hx; simp; omega)]; rfl
theorem rise_cons {x : PairV} {l : List PairV} (h : Rise (x :: l)) : (∀ y ∈ l, x.key < y.key) ∧ Rise l := by
  unfold Rise at h
  rw [List.map_cons, List.pairwise_cons] at h
  exact ⟨fun y hy => h.1 _ (List.mem_map_of_mem hy), h.2⟩
theorem cons_rise {x : PairV} {l : List PairV} (h : ∀ y ∈ l, x.key < y.key) (hl : Rise l) : Rise (x :: l) := by
  unfold Rise
  rw [List.map_cons, List.pairwise_cons]
  refine ⟨fun k hk => ?_, hl⟩
  obtain ⟨y, hy, rfl⟩ := List.mem_map.1 hk
  exact h y hy
/-- the merged list: rising, its keys those of the two, its values the two's together -/
theorem mergeL_spec (kind : Int) : ∀ (N : Nat) (l r : List PairV), l.length + r.length ≤ N → Rise l → Rise r → Rise (mergeL kind l r) ∧ (∀ x ∈ mergeL kind l r, (∃ y ∈ l, y.key = x.key) ∨ (∃ y ∈ r, y.key = x.key)) ∧ (mergeL kind l r).length ≤ l.length + r.length ∧ ∀ k, getP (mergeL kind l r) k = bothV kind (getP l k) (getP r k)
  | N, [], [], _, _, _ => by
    rw [mergeL]
    exact ⟨List.Pairwise.nil, by simp, by simp, fun k => rfl⟩
  | N, x :: l, [], hN, hl, hr => by
    obtain ⟨h1, h2⟩ := rise_cons hl
    have hN' : l.length + ([] : List PairV).length ≤ N - 1 := by simp only [List.length_cons, List.length_nil] at hN ⊢; omega
    obtain ⟨a1, a2, a3, a4⟩ := mergeL_spec kind (N - 1) l [] hN' h2 hr
    rw [mergeL]
    refine ⟨cons_rise (fun y hy => ?_) a1, fun z hz => ?_, by simp only [List.length_cons, List.length_nil] at a3 ⊢; omega, fun k => ?_⟩
    · rcases a2 y hy with ⟨q, hq, he⟩ | ⟨q, hq, he⟩
      · show x.key < y.key
        have := h1 q hq; omega
      · simp at hq
    · rcases List.mem_cons.1 hz with rfl | hz
      · exact .inl ⟨x, by simp, rfl⟩
      · rcases a2 z hz with ⟨q, hq, he⟩ | ⟨q, hq, he⟩
        · exact .inl ⟨q, by simp [hq], he⟩
        · simp at hq
    · rw [getP_cons, getP_cons, a4]
      by_cases h : x.key = k
      · rw [if_pos h, if_pos (show (pairOf x.key (fitV kind x.val)).key = k from h)]; rfl
      · rw [if_neg h, if_neg (show ¬ (pairOf x.key (fitV kind x.val)).key = k from h)]
  | N, [], y :: r, hN, hl, hr => by
    obtain ⟨h1, h2⟩ := rise_cons hr
    have hN' : ([] : List PairV).length + r.length ≤ N - 1 := by simp only [List.length_cons, List.length_nil] at hN ⊢; omega
    obtain ⟨a1, a2, a3, a4⟩ := mergeL_spec kind (N - 1) [] r hN' hl h2
    rw [mergeL]
    refine ⟨cons_rise (fun z hz => ?_) a1, fun z hz => ?_, by simp only [List.length_cons, List.length_nil] at a3 ⊢; omega, fun k => ?_⟩
    · rcases a2 z hz with ⟨q, hq, he⟩ | ⟨q, hq, he⟩
      · simp at hq
      · show y.key < z.key
        have := h1 q hq; omega
    · rcases List.mem_cons.1 hz with rfl | hz
      · exact .inr ⟨y, by simp, rfl⟩
      · rcases a2 z hz with ⟨q, hq, he⟩ | ⟨q, hq, he⟩
        · simp at hq
        · exact .inr ⟨q, by simp [hq], he⟩
    · rw [getP_cons, getP_cons, a4]
      by_cases h : y.key = k
      · rw [if_pos h, if_pos (show (pairOf y.key (fitV kind y.val)).key = k from h)]; rfl
      · rw [if_neg h, if_neg (show ¬ (pairOf y.key (fitV kind y.val)).key = k from h)]
  | N, x :: l, y :: r, hN, hl, hr => by
    obtain ⟨h1, h2⟩ := rise_cons hl
    obtain ⟨g1, g2⟩ := rise_cons hr
    rw [mergeL]
    by_cases hxy : x.key < y.key
    · rw [if_pos hxy]
      have hN' : l.length + (y :: r).length ≤ N - 1 := by simp only [List.length_cons] at hN ⊢; omega
      obtain ⟨a1, a2, a3, a4⟩ := mergeL_spec kind (N - 1) l (y :: r) hN' h2 hr
      refine ⟨cons_rise (fun z hz => ?_) a1, fun z hz => ?_, by simp only [List.length_cons] at a3 ⊢; omega, fun k => ?_⟩
      · show x.key < z.key
        rcases a2 z hz with ⟨q, hq, he⟩ | ⟨q, hq, he⟩
        · have := h1 q hq; omega
        · rcases List.mem_cons.1 hq with rfl | hq
          · omega
          · have := g1 q hq; omega
      · rcases List.mem_cons.1 hz with rfl | hz
        · exact .inl ⟨x, by simp, rfl⟩
        · rcases a2 z hz with ⟨q, hq, he⟩ | h
          · exact .inl ⟨q, by simp [hq], he⟩
          · exact .inr h
      · rw [getP_cons, getP_cons x l, a4]
        by_cases h : x.key = k
        · rw [if_pos h, if_pos (show (pairOf x.key (fitV kind x.val)).key = k from h)]
          have hn : getP (y :: r) k = none := getP_lt fun q hq => by
            rcases List.mem_cons.1 hq with rfl | hq
            · omega
            · have := g1 q hq; omega
          rw [hn]; rfl
        · rw [if_neg h, if_neg (show ¬ (pairOf x.key (fitV kind x.val)).key = k from h)]
    · rw [if_neg hxy]
      by_cases hyx : y.key < x.key
      · rw [if_pos hyx]
        have hN' : (x :: l).length + r.length ≤ N - 1 := by simp only [List.length_cons] at hN ⊢; omega
        obtain ⟨a1, a2, a3, a4⟩ := mergeL_spec kind (N - 1) (x :: l) r hN' hl g2
        refine ⟨cons_rise (fun z hz => ?_) a1, fun z hz => ?_, by simp only [List.length_cons] at a3 ⊢; omega, fun k => ?_⟩
        · show y.key < z.key
          rcases a2 z hz with ⟨q, hq, he⟩ | ⟨q, hq, he⟩
          · rcases List.mem_cons.1 hq with rfl | hq
            · omega
            · have := h1 q hq; omega
          · have := g1 q hq; omega
        · rcases List.mem_cons.1 hz with rfl | hz
          · exact .inr ⟨y, by simp, rfl⟩
          · rcases a2 z hz with h | ⟨q, hq, he⟩
            · exact .inl h
            · exact .inr ⟨q, by simp [hq], he⟩
        · rw [getP_cons, getP_cons y r, a4]
          by_cases h : y.key = k
          · rw [if_pos h, if_pos (show (pairOf y.key (fitV kind y.val)).key = k from h)]
            have hn : getP (x :: l) k = none := getP_lt fun q hq => by
              rcases List.mem_cons.1 hq with rfl | hq
              · omega
              · have := h1 q hq; omega
            rw [hn]; rfl
          · rw [if_neg h, if_neg (show ¬ (pairOf y.key (fitV kind y.val)).key = k from h)]
      · rw [if_neg hyx]
        have he : x.key = y.key := by omega
        have hN' : l.length + r.length ≤ N - 1 := by simp only [List.length_cons] at hN ⊢; omega
        obtain ⟨a1, a2, a3, a4⟩ := mergeL_spec kind (N - 1) l r hN' h2 g2
        refine ⟨cons_rise (fun z hz => ?_) a1, fun z hz => ?_, by simp only [List.length_cons] at a3 ⊢; omega, fun k => ?_⟩
        · show x.key < z.key
          rcases a2 z hz with ⟨q, hq, hq2⟩ | ⟨q, hq, hq2⟩
          · have := h1 q hq; omega
          · have := g1 q hq; omega
        · rcases List.mem_cons.1 hz with rfl | hz
          · exact .inl ⟨x, by simp, rfl⟩
          · rcases a2 z hz with ⟨q, hq, hq2⟩ | ⟨q, hq, hq2⟩
            · exact .inl ⟨q, by simp [hq], hq2⟩
            · exact .inr ⟨q, by simp [hq], hq2⟩
        · rw [getP_cons, getP_cons x l, getP_cons y r, a4]
          by_cases h : x.key = k
          · rw [if_pos h, if_pos (show y.key = k by omega), if_pos (show (pairOf x.key (mergeV kind x.val y.val)).key = k from h)]; rfl
          · rw [if_neg h, if_neg (show ¬ y.key = k by omega), if_neg (show ¬ (pairOf x.key (mergeV kind x.val y.val)).key = k from h)]
theorem getP_mem {l : List PairV} (h : Rise l) {k : Int} {v : ValV} : pairOf k v ∈ l ↔ getP l k = some v := by
  induction l with
  | nil => simp [getP]
  | cons x l ih =>
    obtain ⟨h1, h2⟩ := rise_cons h
    rw [getP_cons, List.mem_cons, ih h2]
    by_cases hk : x.key = k
    · rw [if_pos hk]
      have hn : getP l k = none := getP_lt fun q hq => by have := h1 q hq; omega
      rw [hn]
      constructor
      · rintro (e | e)
        · rw [← e]; rfl
        · cases e
      · intro e
        left
        have e := Option.some.inj e
        rw [← e, ← hk]; rfl
    · rw [if_neg hk]
      constructor
      · rintro (e | e)
        · exact absurd (congrArg PairV.key e).symm hk
        · exact e
      · exact .inr

/-! ### the map -/
theorem setM_nodup {m : Tab} (h : (m.map (·.1)).Nodup) {k : Int} {v : ValV} : ((setM m k v).map (·.1)).Nodup := by
  unfold setM
  split
  · have : (m.map fun p => if (p.1 == k) = true then (k, v) else p).map (·.1) = m.map (·.1) := by
      rw [List.map_map]
      apply List.map_congr_left
      intro p hp
      simp only [Function.comp]
      by_cases hpk : p.1 = k
      · rw [if_pos (by simpa using hpk)]; exact hpk.symm
      · rw [if_neg (by simpa using hpk)]
    rw [this]; exact h
  · rename_i hn
    rw [List.map_append, List.nodup_append]
    refine ⟨h, by simp, fun a ha b hb => ?_⟩
    simp at hb; subst hb
    rintro rfl
    obtain ⟨p, hp, he⟩ := List.mem_map.1 ha
    exact hn (List.any_eq_true.2 ⟨p, hp, by simpa using he⟩)
theorem addT_spec (kind : Int) : ∀ (l : List PairV) (m : Tab), (m.map (·.1)).Nodup → Rise l → ((addT kind m l).map (·.1)).Nodup ∧ ∀ k, getM (addT kind m l) k = match getP l k with | none => getM m k | some v => some (mergeV kind ((getM m k).getD val0) v)
  | [], m, hm, _ => ⟨hm, fun k => rfl⟩
  | x :: l, m, hm, hl => by
    obtain ⟨h1, h2⟩ := rise_cons hl
    have hn : ((putT kind m x.key x.val).map (·.1)).Nodup := setM_nodup hm
    obtain ⟨a1, a2⟩ := addT_spec kind l (putT kind m x.key x.val) hn h2
    refine ⟨a1, fun k => ?_⟩
    show getM (addT kind (putT kind m x.key x.val) l) k = _
    rw [a2 k, getP_cons]
    have hset : getM (putT kind m x.key x.val) k = if k = x.key then some (mergeV kind ((getM m x.key).getD val0) x.val) else getM m k := getM_set hm
    by_cases h : x.key = k
    · rw [if_pos h]
      have hz : getP l k = none := getP_lt fun q hq => by have := h1 q hq; omega
      rw [hz, hset, if_pos h.symm, h]
    · rw [if_neg h, hset, if_neg (fun e => h e.symm)]
theorem add_same {kind : Int} {l r : List PairV} (hl : Rise l) (hr : Rise r) : tableT (addT kind [] (l ++ r)) = mergeL kind l r := by
  obtain ⟨b1, b2, b3, b4⟩ := mergeL_spec kind (l.length + r.length) l r (Nat.le_refl _) hl hr
  obtain ⟨c1, c2⟩ := addT_spec kind l [] (by simp) hl
  obtain ⟨d1, d2⟩ := addT_spec kind r (addT kind [] l) c1 hr
  have e : addT kind [] (l ++ r) = addT kind (addT kind [] l) r := by unfold addT; rw [List.foldl_append]
  rw [e]
  symm
  refine Same.eq ⟨d1, b1, fun k v => ?_⟩
  rw [getP_mem b1, b4 k, d2 k, c2 k]
  cases h1 : getP l k with
  | none =>
    cases h2 : getP r k with
    | none => simp [bothV, getM]
    | some u =>
      have : ((getM ([] : Tab) k).getD val0) = val0 := rfl
      simp only [bothV, this, merge_zero]
  | some a =>
    cases h2 : getP r k with
    | none =>
      have : ((getM ([] : Tab) k).getD val0) = val0 := rfl
      simp only [bothV, this, merge_zero]
    | some u =>
      have : ((getM ([] : Tab) k).getD val0) = val0 := rfl
      simp only [bothV, this, merge_zero, Option.getD_some, merge_fit]
end Go.Sx
/- A rising list of pairs with a part more. Conditions: none. -/
namespace Go.Sx
set_option linter.unusedSimpArgs false
set_option linter.unusedVariables false

end Go.Sx
/- Values of aggregates may be brought together in any order. Conditions: none. -/
namespace Go.Sx
set_option linter.unusedSimpArgs false
set_option linter.unusedVariables false

/-- a value in its one form, as wide as it may be -/
structure Form (kind : Int) (v : ValV) : Prop where
  fit : fitV kind v = v
  wide : v.Fits
theorem Form.zero {kind : Int} : Form kind val0 := ⟨fit_zero, by decide, by decide⟩
theorem Form.of {kind : Int} {x : Nat} (hx : x < 18446744073709551616) : Form kind (ofV kind x) := ⟨fit_of, ofV_fits hx⟩
theorem Form.bits {kind : Int} {v : ValV} (h : Form kind v) (hh : v.has = true) (hk : kind = 3 ∨ kind = 4) : canonF v.bits.toNat = v.bits.toNat ∧ v.bits.toNat < 18446744073709551616 ∧ v = ⟨true, (v.bits.toNat : Int)⟩ := by
  have hf := h.fit
  obtain ⟨w1, w2⟩ := h.wide
  have hb := bits_lt h.wide
  have hkn : knownB kind = true := by unfold knownB; rw [decide_eq_true_eq]; omega
  unfold fitV at hf
  rw [if_neg (by rw [hkn, hh]; simp), if_pos hk] at hf
  have e : ofV kind v.bits.toNat = ⟨true, (canonF v.bits.toNat : Int)⟩ := by unfold ofV; rw [if_neg (by omega), if_neg (by omega), if_pos hk]
  rw [e] at hf
  have h1 : ((canonF v.bits.toNat : Nat) : Int) = v.bits := congrArg ValV.bits hf
  refine ⟨by omega, hb, ?_⟩
  cases v
  simp only at hh w1 ⊢
  rw [hh]; congr 1; omega
theorem Form.empty {kind : Int} {v : ValV} (h : Form kind v) (hh : v.has = false) : v = val0 := by
  have hf := h.fit
  unfold fitV at hf
  rw [if_pos (.inr hh)] at hf
  exact hf.symm
theorem Form.join {kind : Int} {a b : ValV} (hk : knownB kind = true) (ha : Form kind a) (hb : Form kind b) : Form kind (joinV kind a b) := by
  refine ⟨?_, joinV_fits ha.wide hb.wide⟩
  unfold knownB at hk
  simp only [decide_eq_true_eq] at hk
  unfold joinV
  split
  · exact hb.fit
  split
  · exact ha.fit
  split
  · rename_i h; subst h; exact fit_of
  split
  · rename_i h; subst h; exact fit_of
  · unfold fitV
    rw [if_neg (by simp [knownB]; omega), if_neg (by omega)]
theorem mergeV_form {kind : Int} {a b : ValV} (ha : Form kind a) (hb : Form kind b) : mergeV kind a b = joinV kind a b := by unfold mergeV; rw [ha.fit, hb.fit]
end Go.Sx
/- What a batch holds, key by key. Conditions: none. -/
namespace Go.Sx
set_option linter.unusedSimpArgs false
set_option linter.unusedVariables false

def bOne (list : List OpV) (kind : Int) (m : Tab × Int) (r : RecV) : Tab × Int := if (runB list r).2 = 1 then (putT kind m.1 (runB list r).1.key (ofV kind (runB list r).1.val), m.2) else if (runB list r).2 = 3 then (m.1, IntKind.i64.wrap (m.2 + 1)) else m
def bAll (list : List OpV) (kind : Int) (rs : List RecV) : Tab × Int := rs.foldl (bOne list kind) ([], 0)
/-- the parts that the kept records make -/
def keptL (list : List OpV) (kind : Int) (rs : List RecV) : List (Int × ValV) := rs.filterMap fun r => if (runB list r).2 = 1 then some ((runB list r).1.key, ofV kind (runB list r).1.val) else none
def valsOf (ks : List (Int × ValV)) (k : Int) : List ValV := (ks.filter fun p => p.1 == k).map (·.2)
def sumV (kind : Int) (vs : List ValV) : ValV := vs.foldl (joinV kind) val0
theorem bAll_tab (list : List OpV) (kind : Int) : ∀ (rs : List RecV) (m : Tab × Int), (rs.foldl (bOne list kind) m).1 = (keptL list kind rs).foldl (fun m p => putT kind m p.1 p.2) m.1
  | [], m => rfl
  | r :: rs, m => by
    show (rs.foldl (bOne list kind) (bOne list kind m r)).1 = _
    rw [bAll_tab list kind rs]
    unfold keptL bOne
    rw [List.filterMap_cons]
    by_cases h1 : (runB list r).2 = 1
    · rw [if_pos h1, if_pos h1]; rfl
    · rw [if_neg h1, if_neg h1]
      by_cases h3 : (runB list r).2 = 3
      · rw [if_pos h3]
      · rw [if_neg h3]
theorem valsOf_cons (p : Int × ValV) (ks : List (Int × ValV)) (k : Int) : valsOf (p :: ks) k = if p.1 = k then p.2 :: valsOf ks k else valsOf ks k := by
  unfold valsOf
  rw [List.filter_cons]
  by_cases h : p.1 = k
  · rw [if_pos (by simpa using h), if_pos h]; rfl
  · rw [if_neg (by simpa using h), if_neg h]
def TabForm (kind : Int) (m : Tab) : Prop := (m.map (·.1)).Nodup ∧ ∀ k v, getM m k = some v → Form kind v
theorem TabForm.getD {kind : Int} {m : Tab} (h : TabForm kind m) (k : Int) : Form kind ((getM m k).getD val0) := by
  cases hg : getM m k with
  | none => exact Form.zero
  | some v => exact h.2 k v hg
theorem put_form {kind : Int} {m : Tab} {k : Int} {v : ValV} (hk : knownB kind = true) (hm : TabForm kind m) (hv : Form kind v) : TabForm kind (putT kind m k v) := by
  refine ⟨setM_nodup hm.1, fun k' v' h => ?_⟩
  unfold putT at h
  rw [getM_set hm.1] at h
  split at h
  · cases h
    rw [mergeV_form (hm.getD k) hv]
    exact Form.join hk (hm.getD k) hv
  · exact hm.2 k' v' h
theorem put_fold {kind : Int} (hk : knownB kind = true) : ∀ (ks : List (Int × ValV)) (m : Tab), (∀ p ∈ ks, Form kind p.2) → TabForm kind m →
    TabForm kind (ks.foldl (fun m p => putT kind m p.1 p.2) m) ∧ ∀ k, getM (ks.foldl (fun m p => putT kind m p.1 p.2) m) k = if valsOf ks k = [] then getM m k else some ((valsOf ks k).foldl (joinV kind) ((getM m k).getD val0))
  | [], m, _, hm => ⟨hm, fun k => rfl⟩
  | p :: ks, m, hf, hm => by
    have hp := hf p (by simp)
    have hm' := put_form (k := p.1) hk hm hp
    obtain ⟨a1, a2⟩ := put_fold hk ks (putT kind m p.1 p.2) (fun q hq => hf q (by simp [hq])) hm'
    refine ⟨a1, fun k => ?_⟩
    show getM (ks.foldl (fun m p => putT kind m p.1 p.2) (putT kind m p.1 p.2)) k = _
    rw [a2 k, valsOf_cons]
    have hset : getM (putT kind m p.1 p.2) k = if k = p.1 then some (joinV kind ((getM m p.1).getD val0) p.2) else getM m k := by
      unfold putT; rw [getM_set hm.1, mergeV_form (hm.getD p.1) hp]
    by_cases h : p.1 = k
    · rw [if_pos h, hset, if_pos h.symm]
      subst h
      simp only [Option.getD_some, List.foldl_cons]
      by_cases hn : valsOf ks p.1 = []
      · rw [if_pos hn, hn]; simp
      · rw [if_neg hn]; simp
    · have hset' : getM (putT kind m p.1 p.2) k = getM m k := by rw [hset, if_neg (show ¬ k = p.1 from fun e => h e.symm)]
      rw [if_neg h, hset']
theorem tab_nil {kind : Int} : TabForm kind [] := ⟨by simp, fun k v h => by simp [getM] at h⟩
theorem kept_form {list : List OpV} {kind : Int} {rs : List RecV} (hl : ∀ o ∈ list, o.Fits) (hf : ∀ x ∈ rs, x.Fits) : ∀ p ∈ keptL list kind rs, Form kind p.2 := by
  intro p hp
  unfold keptL at hp
  obtain ⟨r, hr, he⟩ := List.mem_filterMap.1 hp
  split at he
  · cases he
    exact Form.of (runB_fits hl (hf r hr)).2
  · cases he
/-- a batch's value of a key is the sum of its parts -/
theorem batch_get {list : List OpV} {kind : Int} {rs : List RecV} (hk : knownB kind = true) (hl : ∀ o ∈ list, o.Fits) (hf : ∀ x ∈ rs, x.Fits) :
    TabForm kind (bAll list kind rs).1 ∧ ∀ k, getM (bAll list kind rs).1 k = if valsOf (keptL list kind rs) k = [] then none else some (sumV kind (valsOf (keptL list kind rs) k)) := by
  unfold bAll
  rw [bAll_tab]
  obtain ⟨a1, a2⟩ := put_fold hk (keptL list kind rs) [] (kept_form hl hf) tab_nil
  exact ⟨a1, fun k => by rw [a2 k]; rfl⟩

/-! ### sums -/
end Go.Sx
/- A batch's table is sound, and no longer than the records. Conditions: none. -/
namespace Go.Sx
set_option linter.unusedSimpArgs false
set_option linter.unusedVariables false

theorem join_has' {kind : Int} {a b : ValV} (h : a.has = true ∨ b.has = true) : (joinV kind a b).has = true := by
  unfold joinV
  split
  · rename_i h1
    rcases h with h | h
    · rw [h1] at h; cases h
    · exact h
  split
  · rename_i h1 h2
    rcases h with h | h
    · exact h
    · rw [h2] at h; cases h
  split
  · exact ofV_has (by decide)
  split
  · exact ofV_has (by decide)
  · rfl
theorem fold_has {kind : Int} : ∀ (vs : List ValV) (a : ValV), (a.has = true ∨ vs ≠ []) → (∀ v ∈ vs, v.has = true) → (vs.foldl (joinV kind) a).has = true
  | [], a, h, _ => h.resolve_right (fun h => h rfl)
  | v :: vs, a, _, hv => fold_has vs _ (.inl (join_has' (.inr (hv v (by simp))))) fun x hx => hv x (by simp [hx])
theorem kept_has {list : List OpV} {kind : Int} {rs : List RecV} (hk : knownB kind = true) : ∀ p ∈ keptL list kind rs, p.2.has = true := by
  intro p hp
  unfold keptL at hp
  obtain ⟨r, hr, he⟩ := List.mem_filterMap.1 hp
  split at he
  · cases he; exact ofV_has hk
  · cases he
theorem vals_mem {ks : List (Int × ValV)} {k : Int} {v : ValV} (h : v ∈ valsOf ks k) : ∃ p ∈ ks, p.1 = k ∧ p.2 = v := by
  unfold valsOf at h
  obtain ⟨p, hp, rfl⟩ := List.mem_map.1 h
  rw [List.mem_filter] at hp
  exact ⟨p, hp.1, by simpa using hp.2, rfl⟩
theorem table_sound {list : List OpV} {kind : Int} {rs : List RecV} (hk : knownB kind = true) (hl : ∀ o ∈ list, o.Fits) (hf : ∀ x ∈ rs, x.Fits) : soundB (tableT (bAll list kind rs).1) = true := by
  obtain ⟨h1, h2⟩ := batch_get (kind := kind) hk hl hf
  have hS := table_same h1.1
  unfold soundB
  rw [decide_eq_true_eq]
  refine ⟨fun x hx => ?_, hS.rise⟩
  have hg := (hS.mem x.key x.val).1 hx
  rw [h2 x.key] at hg
  split at hg
  · cases hg
  · rename_i hne
    have he := Option.some.inj hg
    have : (sumV kind (valsOf (keptL list kind rs) x.key)).has = true := fold_has _ _ (.inr hne) fun v hv => by
      obtain ⟨p, hp, -, rfl⟩ := vals_mem hv
      exact kept_has hk p hp
    rw [he] at this
    exact this
theorem setM_lenV {m : Tab} {k : Int} {v : ValV} : (setM m k v).length ≤ m.length + 1 := by unfold setM; split <;> simp
theorem put_len {kind : Int} : ∀ (ks : List (Int × ValV)) (m : Tab), (ks.foldl (fun m p => putT kind m p.1 p.2) m).length ≤ m.length + ks.length
  | [], m => by simp
  | p :: ks, m => by
    have h1 := put_len (kind := kind) ks (putT kind m p.1 p.2)
    have h2 : (putT kind m p.1 p.2).length ≤ m.length + 1 := setM_lenV
    simp only [List.foldl_cons, List.length_cons] at h1 ⊢
    omega
theorem batch_len (list : List OpV) (kind : Int) (rs : List RecV) : (bAll list kind rs).1.length ≤ rs.length := by
  unfold bAll
  rw [bAll_tab]
  have h1 := put_len (kind := kind) (keptL list kind rs) ([] : Tab)
  have h2 : (keptL list kind rs).length ≤ rs.length := List.length_filterMap_le _ _
  simp only [List.length_nil] at h1
  show ((keptL list kind rs).foldl (fun m p => putT kind m p.1 p.2) []).length ≤ rs.length
  omega
theorem tableT_lenV (m : Tab) : (tableT m).length = m.length := by unfold tableT; rw [List.length_map, (sortL_perm _).length_eq, List.length_map]
end Go.Sx
/- Batches cut in two, thinned out, counted, key by key. Conditions: none. -/
namespace Go.Sx

/-! ### keys alone -/
/-! ### counts -/
/-! ### one key -/
end Go.Sx
