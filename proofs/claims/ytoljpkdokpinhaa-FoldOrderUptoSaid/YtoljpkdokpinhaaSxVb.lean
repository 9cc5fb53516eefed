/- Tables that are added: two rising lists merged hold what the map holds. Conditions: none. -/
import Derived.Test.YtoljpkdokpinhaaSxVa
namespace Go.Sx
set_option linter.unusedSimpArgs false
set_option linter.unusedVariables false

def mergeL (kind : Int) : List PairV → List PairV → List PairV
  | [], [] => []
  | x :: l, [] => pairOf x.key (fitV kind x.val) :: mergeL kind l []
  | [], y :: r => pairOf y.key (fitV kind y.val) :: mergeL kind [] r
  | x :: l, y :: r => if x.key < y.key then pairOf x.key (fitV kind x.val) :: mergeL kind l (y :: r) else if y.key < x.key then pairOf y.key (fitV kind y.val) :: mergeL kind (x :: l) r else pairOf x.key (mergeV kind x.val y.val) :: mergeL kind l r
termination_by l r => l.length + r.length

/-- the value of a key in a list, if any -/
def getP (l : List PairV) (k : Int) : Option ValV := (l.find? fun p => p.key == k).map (·.val)
def bothV (kind : Int) : Option ValV → Option ValV → Option ValV
  | none, none => none
  | some a, none => some (fitV kind a)
  | none, some b => some (fitV kind b)
  | some a, some b => some (mergeV kind a b)
abbrev Rise (l : List PairV) : Prop := (l.map (·.key)).Pairwise (· < ·)
theorem getP_cons (x : PairV) (l : List PairV) (k : Int) : getP (x :: l) k = if x.key = k then some x.val else getP l k := by
  unfold getP
  rw [List.find?_cons]
  by_cases h : x.key = k
  · rw [if_pos h, show (x.key == k) = true from by simpa using h]; rfl
  · rw [if_neg h, show (x.key == k) = false from by simpa using h]
theorem getP_lt {l : List PairV} {k : Int} (h : ∀ x ∈ l, k < x.key) : getP l k = none := by
  unfold getP
  rw [List.find?_eq_none.2 (fun x hx => by have := h x hx; simp; omega)]; rfl
theorem rise_cons {x : PairV} {l : List PairV} (h : Rise (x :: l)) : (∀ y ∈ l, x.key < y.key) ∧ Rise l := by
  unfold Rise at h
  rw [List.map_cons, List.pairwise_cons] at h
  exact ⟨fun y hy => h.1 _ (List.mem_map_of_mem hy), h.2⟩
theorem cons_rise {x : PairV} {l : List PairV} (h : ∀ y ∈ l, x.key < y.key) (hl : Rise l) : Rise (x :: l) := by
  unfold Rise
  rw [List.map_cons, List.pairwise_cons]
  refine ⟨fun k hk => ?_, hl⟩
  obtain ⟨y, hy, rfl⟩ := List.mem_map.1 hk
  exact h y hy
/-- the merged list: rising, its keys those of the two, its values the two's together -/
theorem mergeL_spec (kind : Int) : ∀ (N : Nat) (l r : List PairV), l.length + r.length ≤ N → Rise l → Rise r → Rise (mergeL kind l r) ∧ (∀ x ∈ mergeL kind l r, (∃ y ∈ l, y.key = x.key) ∨ (∃ y ∈ r, y.key = x.key)) ∧ (mergeL kind l r).length ≤ l.length + r.length ∧ ∀ k, getP (mergeL kind l r) k = bothV kind (getP l k) (getP r k)
  | N, [], [], _, _, _ => by
    rw [mergeL]
    exact ⟨List.Pairwise.nil, by simp, by simp, fun k => rfl⟩
  | N, x :: l, [], hN, hl, hr => by
    obtain ⟨h1, h2⟩ := rise_cons hl
    have hN' : l.length + ([] : List PairV).length ≤ N - 1 := by simp only [List.length_cons, List.length_nil] at hN ⊢; omega
    obtain ⟨a1, a2, a3, a4⟩ := mergeL_spec kind (N - 1) l [] hN' h2 hr
    rw [mergeL]
    refine ⟨cons_rise (fun y hy => ?_) a1, fun z hz => ?_, by simp only [List.length_cons, List.length_nil] at a3 ⊢; omega, fun k => ?_⟩
    · rcases a2 y hy with ⟨q, hq, he⟩ | ⟨q, hq, he⟩
      · show x.key < y.key
        have := h1 q hq; omega
      · simp at hq
    · rcases List.mem_cons.1 hz with rfl | hz
      · exact .inl ⟨x, by simp, rfl⟩
      · rcases a2 z hz with ⟨q, hq, he⟩ | ⟨q, hq, he⟩
        · exact .inl ⟨q, by simp [hq], he⟩
        · simp at hq
    · rw [getP_cons, getP_cons, a4]
      by_cases h : x.key = k
      · rw [if_pos h, if_pos (show (pairOf x.key (fitV kind x.val)).key = k from h)]; rfl
      · rw [if_neg h, if_neg (show ¬ (pairOf x.key (fitV kind x.val)).key = k from h)]
  | N, [], y :: r, hN, hl, hr => by
    obtain ⟨h1, h2⟩ := rise_cons hr
    have hN' : ([] : List PairV).length + r.length ≤ N - 1 := by simp only [List.length_cons, List.length_nil] at hN ⊢; omega
    obtain ⟨a1, a2, a3, a4⟩ := mergeL_spec kind (N - 1) [] r hN' hl h2
    rw [mergeL]
    refine ⟨cons_rise (fun z hz => ?_) a1, fun z hz => ?_, by simp only [List.length_cons, List.length_nil] at a3 ⊢; omega, fun k => ?_⟩
    · rcases a2 z hz with ⟨q, hq, he⟩ | ⟨q, hq, he⟩
      · simp at hq
      · show y.key < z.key
        have := h1 q hq; omega
    · rcases List.mem_cons.1 hz with rfl | hz
      · exact .inr ⟨y, by simp, rfl⟩
      · rcases a2 z hz with ⟨q, hq, he⟩ | ⟨q, hq, he⟩
        · simp at hq
        · exact .inr ⟨q, by simp [hq], he⟩
    · rw [getP_cons, getP_cons, a4]
      by_cases h : y.key = k
      · rw [if_pos h, if_pos (show (pairOf y.key (fitV kind y.val)).key = k from h)]; rfl
      · rw [if_neg h, if_neg (show ¬ (pairOf y.key (fitV kind y.val)).key = k from h)]
  | N, x :: l, y :: r, hN, hl, hr => by
    obtain ⟨h1, h2⟩ := rise_cons hl
    obtain ⟨g1, g2⟩ := rise_cons hr
    rw [mergeL]
    by_cases hxy : x.key < y.key
    · rw [if_pos hxy]
      have hN' : l.length + (y :: r).length ≤ N - 1 := by simp only [List.length_cons] at hN ⊢; omega
      obtain ⟨a1, a2, a3, a4⟩ := mergeL_spec kind (N - 1) l (y :: r) hN' h2 hr
      refine ⟨cons_rise (fun z hz => ?_) a1, fun z hz => ?_, by simp only [List.length_cons] at a3 ⊢; omega, fun k => ?_⟩
      · show x.key < z.key
        rcases a2 z hz with ⟨q, hq, he⟩ | ⟨q, hq, he⟩
        · have := h1 q hq; omega
        · rcases List.mem_cons.1 hq with rfl | hq
          · omega
          · have := g1 q hq; omega
      · rcases List.mem_cons.1 hz with rfl | hz
        · exact .inl ⟨x, by simp, rfl⟩
        · rcases a2 z hz with ⟨q, hq, he⟩ | h
          · exact .inl ⟨q, by simp [hq], he⟩
          · exact .inr h
      · rw [getP_cons, getP_cons x l, a4]
        by_cases h : x.key = k
        · rw [if_pos h, if_pos (show (pairOf x.key (fitV kind x.val)).key = k from h)]
          have hn : getP (y :: r) k = none := getP_lt fun q hq => by
            rcases List.mem_cons.1 hq with rfl | hq
            · omega
            · have := g1 q hq; omega
          rw [hn]; rfl
        · rw [if_neg h, if_neg (show ¬ (pairOf x.key (fitV kind x.val)).key = k from h)]
    · rw [if_neg hxy]
      by_cases hyx : y.key < x.key
      · rw [if_pos hyx]
        have hN' : (x :: l).length + r.length ≤ N - 1 := by simp only [List.length_cons] at hN ⊢; omega
        obtain ⟨a1, a2, a3, a4⟩ := mergeL_spec kind (N - 1) (x :: l) r hN' hl g2
        refine ⟨cons_rise (fun z hz => ?_) a1, fun z hz => ?_, by simp only [List.length_cons] at a3 ⊢; omega, fun k => ?_⟩
        · show y.key < z.key
          rcases a2 z hz with ⟨q, hq, he⟩ | ⟨q, hq, he⟩
          · rcases List.mem_cons.1 hq with rfl | hq
            · omega
            · have := h1 q hq; omega
          · have := g1 q hq; omega
        · rcases List.mem_cons.1 hz with rfl | hz
          · exact .inr ⟨y, by simp, rfl⟩
          · rcases a2 z hz with h | ⟨q, hq, he⟩
            · exact .inl h
            · exact .inr ⟨q, by simp [hq], he⟩
        · rw [getP_cons, getP_cons y r, a4]
          by_cases h : y.key = k
          · rw [if_pos h, if_pos (show (pairOf y.key (fitV kind y.val)).key = k from h)]
            have hn : getP (x :: l) k = none := getP_lt fun q hq => by
              rcases List.mem_cons.1 hq with rfl | hq
              · omega
              · have := h1 q hq; omega
            rw [hn]; rfl
          · rw [if_neg h, if_neg (show ¬ (pairOf y.key (fitV kind y.val)).key = k from h)]
      · rw [if_neg hyx]
        have he : x.key = y.key := by omega
        have hN' : l.length + r.length ≤ N - 1 := by simp only [List.length_cons] at hN ⊢; omega
        obtain ⟨a1, a2, a3, a4⟩ := mergeL_spec kind (N - 1) l r hN' h2 g2
        refine ⟨cons_rise (fun z hz => ?_) a1, fun z hz => ?_, by simp only [List.length_cons] at a3 ⊢; omega, fun k => ?_⟩
        · show x.key < z.key
          rcases a2 z hz with ⟨q, hq, hq2⟩ | ⟨q, hq, hq2⟩
          · have := h1 q hq; omega
          · have := g1 q hq; omega
        · rcases List.mem_cons.1 hz with rfl | hz
          · exact .inl ⟨x, by simp, rfl⟩
          · rcases a2 z hz with ⟨q, hq, hq2⟩ | ⟨q, hq, hq2⟩
            · exact .inl ⟨q, by simp [hq], hq2⟩
            · exact .inr ⟨q, by simp [hq], hq2⟩
        · rw [getP_cons, getP_cons x l, getP_cons y r, a4]
          by_cases h : x.key = k
          · rw [if_pos h, if_pos (show y.key = k by omega), if_pos (show (pairOf x.key (mergeV kind x.val y.val)).key = k from h)]; rfl
          · rw [if_neg h, if_neg (show ¬ y.key = k by omega), if_neg (show ¬ (pairOf x.key (mergeV kind x.val y.val)).key = k from h)]
theorem getP_mem {l : List PairV} (h : Rise l) {k : Int} {v : ValV} : pairOf k v ∈ l ↔ getP l k = some v := by
  induction l with
  | nil => simp [getP]
  | cons x l ih =>
    obtain ⟨h1, h2⟩ := rise_cons h
    rw [getP_cons, List.mem_cons, ih h2]
    by_cases hk : x.key = k
    · rw [if_pos hk]
      have hn : getP l k = none := getP_lt fun q hq => by have := h1 q hq; omega
      rw [hn]
      constructor
      · rintro (e | e)
        · rw [← e]; rfl
        · cases e
      · intro e
        left
        have e := Option.some.inj e
        rw [← e, ← hk]; rfl
    · rw [if_neg hk]
      constructor
      · rintro (e | e)
        · exact absurd (congrArg PairV.key e).symm hk
        · exact e
      · exact .inr

/-! ### the map -/
theorem setM_nodup {m : Tab} (h : (m.map (·.1)).Nodup) {k : Int} {v : ValV} : ((setM m k v).map (·.1)).Nodup := by
  unfold setM
  split
  · have : (m.map fun p => if (p.1 == k) = true then (k, v) else p).map (·.1) = m.map (·.1) := by
      rw [List.map_map]
      apply List.map_congr_left
      intro p hp
      simp only [Function.comp]
      by_cases hpk : p.1 = k
      · rw [if_pos (by simpa using hpk)]; exact hpk.symm
      · rw [if_neg (by simpa using hpk)]
    rw [this]; exact h
  · rename_i hn
    rw [List.map_append, List.nodup_append]
    refine ⟨h, by simp, fun a ha b hb => ?_⟩
    simp at hb; subst hb
    rintro rfl
    obtain ⟨p, hp, he⟩ := List.mem_map.1 ha
    exact hn (List.any_eq_true.2 ⟨p, hp, by simpa using he⟩)
theorem addT_spec (kind : Int) : ∀ (l : List PairV) (m : Tab), (m.map (·.1)).Nodup → Rise l → ((addT kind m l).map (·.1)).Nodup ∧ ∀ k, getM (addT kind m l) k = match getP l k with | none => getM m k | some v => some (mergeV kind ((getM m k).getD val0) v)
  | [], m, hm, _ => ⟨hm, fun k => rfl⟩
  | x :: l, m, hm, hl => by
    obtain ⟨h1, h2⟩ := rise_cons hl
    have hn : ((putT kind m x.key x.val).map (·.1)).Nodup := setM_nodup hm
    obtain ⟨a1, a2⟩ := addT_spec kind l (putT kind m x.key x.val) hn h2
    refine ⟨a1, fun k => ?_⟩
    show getM (addT kind (putT kind m x.key x.val) l) k = _
    rw [a2 k, getP_cons]
    have hset : getM (putT kind m x.key x.val) k = if k = x.key then some (mergeV kind ((getM m x.key).getD val0) x.val) else getM m k := getM_set hm
    by_cases h : x.key = k
    · rw [if_pos h]
      have hz : getP l k = none := getP_lt fun q hq => by have := h1 q hq; omega
      rw [hz, hset, if_pos h.symm, h]
    · rw [if_neg h, hset, if_neg (fun e => h e.symm)]
theorem add_same {kind : Int} {l r : List PairV} (hl : Rise l) (hr : Rise r) : tableT (addT kind [] (l ++ r)) = mergeL kind l r := by
  obtain ⟨b1, b2, b3, b4⟩ := mergeL_spec kind (l.length + r.length) l r (Nat.le_refl _) hl hr
  obtain ⟨c1, c2⟩ := addT_spec kind l [] (by simp) hl
  obtain ⟨d1, d2⟩ := addT_spec kind r (addT kind [] l) c1 hr
  have e : addT kind [] (l ++ r) = addT kind (addT kind [] l) r := by unfold addT; rw [List.foldl_append]
  rw [e]
  symm
  refine Same.eq ⟨d1, b1, fun k v => ?_⟩
  rw [getP_mem b1, b4 k, d2 k, c2 k]
  cases h1 : getP l k with
  | none =>
    cases h2 : getP r k with
    | none => simp [bothV, getM]
    | some u =>
      have : ((getM ([] : Tab) k).getD val0) = val0 := rfl
      simp only [bothV, this, merge_zero]
  | some a =>
    cases h2 : getP r k with
    | none =>
      have : ((getM ([] : Tab) k).getD val0) = val0 := rfl
      simp only [bothV, this, merge_zero]
    | some u =>
      have : ((getM ([] : Tab) k).getD val0) = val0 := rfl
      simp only [bothV, this, merge_zero, Option.getD_some, merge_fit]
end Go.Sx
