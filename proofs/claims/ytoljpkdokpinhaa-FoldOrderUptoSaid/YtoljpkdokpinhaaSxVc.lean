/- A rising list of pairs with a part more. Conditions: none. -/
import Derived.Test.YtoljpkdokpinhaaSxVb
namespace Go.Sx
set_option linter.unusedSimpArgs false
set_option linter.unusedVariables false

theorem pairOf_inj {k k' : Int} {v v' : ValV} (h : pairOf k v = pairOf k' v') : k = k' ∧ v = v' := by
  have h1 : k = k' := congrArg PairV.key h
  have h2 : v.has = v'.has := congrArg PairV.has h
  have h3 : v.bits = v'.bits := congrArg PairV.bits h
  exact ⟨h1, by cases v; cases v'; simp_all⟩
theorem same_insert {kind : Int} {m : Tab} {t : List PairV} {k : Int} {v : ValV} {j : Nat} (h : Same m t) (hj : j ≤ t.length) (h1 : ∀ x ∈ t.take j, x.key < k) (h2 : ∀ x, t[j]? = some x → k < x.key) :
    Same (putT kind m k v) (t.take j ++ pairOf k (fitV kind v) :: t.drop j) := by
  obtain ⟨p1, p2, p3⟩ := strict_put (l := t.map (·.key)) (k := k) (j := j) h.rise (by simpa using hj) (fun x hx => by
    rw [← List.map_take] at hx
    obtain ⟨y, hy, rfl⟩ := List.mem_map.1 hx
    exact h1 y hy) (fun x hx => by
    rw [List.getElem?_map] at hx
    obtain ⟨y, hy, rfl⟩ := Option.map_eq_some_iff.1 hx
    exact h2 y hy)
  have hno : getM m k = none := by
    cases hg : getM m k with
    | none => rfl
    | some u =>
      have := (h.mem k u).2 hg
      exact absurd (List.mem_map_of_mem (f := (·.key)) this) p3
  have hput : putT kind m k v = setM m k (fitV kind v) := by unfold putT; rw [hno]; show setM m k (mergeV kind val0 v) = _; rw [merge_zero]
  rw [hput]
  refine ⟨setM_nodup h.nodup, ?_, fun k' v' => ?_⟩
  · rw [List.map_append, List.map_cons, List.map_take, List.map_drop]; exact p1
  · rw [getM_set h.nodup, List.mem_append, List.mem_cons]
    have hsplit : pairOf k' v' ∈ t ↔ pairOf k' v' ∈ t.take j ∨ pairOf k' v' ∈ t.drop j := by rw [← List.mem_append, List.take_append_drop]
    by_cases hk : k' = k
    · subst hk
      rw [if_pos rfl]
      have hnt : ¬ pairOf k' v' ∈ t := fun hm => p3 (List.mem_map_of_mem (f := (·.key)) hm)
      rw [hsplit] at hnt
      constructor
      · rintro (e | e | e)
        · exact absurd (.inl e) hnt
        · rw [(pairOf_inj e).2]
        · exact absurd (.inr e) hnt
      · intro e
        right; left
        rw [Option.some.inj e]
    · rw [if_neg hk, ← h.mem k' v', hsplit]
      constructor
      · rintro (e | e | e)
        · exact .inl e
        · exact absurd (pairOf_inj e).1 hk
        · exact .inr e
      · rintro (e | e)
        · exact .inl e
        · exact .inr (.inr e)
theorem same_set {kind : Int} {m : Tab} {t : List PairV} {k : Int} {v : ValV} {j : Nat} {x : PairV} (h : Same m t) (hx : t[j]? = some x) (hk : x.key = k) :
    Same (putT kind m k v) (t.set j (pairOf k (mergeV kind x.val v))) := by
  subst hk
  have hmem := List.mem_of_getElem? hx
  have hg : getM m x.key = some x.val := (h.mem _ _).1 (by rw [pairOf_val]; exact hmem)
  have hput : putT kind m x.key v = setM m x.key (mergeV kind x.val v) := by unfold putT; rw [hg]; rfl
  rw [hput]
  have hkeys : (t.set j (pairOf x.key (mergeV kind x.val v))).map (·.key) = t.map (·.key) := by
    apply List.ext_getElem?
    intro i
    rw [List.getElem?_map, List.getElem?_map, List.getElem?_set]
    by_cases hi : j = i
    · subst hi; rw [if_pos rfl, if_pos (List.getElem?_eq_some_iff.1 hx).1, hx]; rfl
    · rw [if_neg hi]
  refine ⟨setM_nodup h.nodup, by rw [hkeys]; exact h.rise, fun k' v' => ?_⟩
  rw [getM_set h.nodup]
  have hs := set_mem_iff (x := pairOf x.key (mergeV kind x.val v)) (y := pairOf k' v') hx
  have hs' : pairOf k' v' ∈ t.set j (pairOf x.key (mergeV kind x.val v)) ↔ pairOf k' v' = pairOf x.key (mergeV kind x.val v) ∨ ∃ i, i ≠ j ∧ t[i]? = some (pairOf k' v') := by
    rw [← hs]; exact ⟨fun h => ⟨_, h, rfl⟩, fun ⟨q, hq, e⟩ => e ▸ hq⟩
  rw [hs']
  have hother : ∀ i y, i ≠ j → t[i]? = some y → y.key ≠ x.key := by
    intro i y hi hy he
    have e1 : (t.map (·.key))[i]? = some y.key := by rw [List.getElem?_map, hy]; rfl
    have e2 : (t.map (·.key))[j]? = some x.key := by rw [List.getElem?_map, hx]; rfl
    obtain ⟨i1, e1⟩ := List.getElem?_eq_some_iff.1 e1
    obtain ⟨i2, e2⟩ := List.getElem?_eq_some_iff.1 e2
    have hp := List.pairwise_iff_getElem.1 h.rise
    rcases Nat.lt_or_gt_of_ne hi with hlt | hlt
    · have := hp i j i1 i2 hlt; rw [e1, e2] at this; omega
    · have := hp j i i2 i1 hlt; rw [e1, e2] at this; omega
  by_cases hk : k' = x.key
  · subst hk
    rw [if_pos rfl]
    constructor
    · rintro (e | ⟨i, hi, e⟩)
      · rw [(pairOf_inj e).2]
      · exact absurd rfl (hother i (pairOf x.key v') hi e)
    · intro e
      left; rw [Option.some.inj e]
  · rw [if_neg hk, ← h.mem k' v']
    constructor
    · rintro (e | ⟨i, hi, e⟩)
      · exact absurd (pairOf_inj e).1 hk
      · exact List.mem_of_getElem? e
    · intro e
      obtain ⟨i, hi⟩ := List.getElem?_of_mem e
      refine .inr ⟨i, fun hij => ?_, hi⟩
      subst hij
      rw [hx] at hi
      exact hk (congrArg PairV.key (Option.some.inj hi)).symm

/-- the value of a pair of an owned row is written -/
theorem Own.setVal {w : World} {B : Nat} {e : TypeId} {a : Option Addr} {n c : Nat} {l : List PairV} (h : Own w B e Enc.pair a n c l) {i : Nat} {x : PairV} (hi : l[i]? = some x) (v : ValV) :
    ∃ g, a = some ⟨g, 0, none⟩ ∧ RoomAt w ⟨g, i * 3 + 1, none⟩ 0 [.bool v.has, .int .u64 v.bits] ∧ Own (setCells w ⟨g, i * 3 + 1, none⟩ 0 [.bool v.has, .int .u64 v.bits]) B e Enc.pair a n c (l.set i (pairOf x.key v)) ∧ Upd (fun b => b = g) w (setCells w ⟨g, i * 3 + 1, none⟩ 0 [.bool v.has, .int .u64 v.bits]) := by
  obtain ⟨g, hg, hR, hO, hU⟩ := h.set1 (i := i) (x := x) (x' := ⟨x.key, v.has, x.bits⟩) (v := .bool v.has) (j := 1) hi (by decide) (by simp [Enc.pair])
  obtain ⟨g', hg', hR', -, -⟩ := h.set1 (i := i) (x := x) (x' := ⟨x.key, x.has, v.bits⟩) (v := .int .u64 v.bits) (j := 2) hi (by decide) (by simp [Enc.pair])
  rw [hg] at hg'; cases hg'
  have hlt := (List.getElem?_eq_some_iff.1 hi).1
  obtain ⟨g', hg', hR2, hO2, hU2⟩ := hO.set1 (i := i) (x := ⟨x.key, v.has, x.bits⟩) (x' := pairOf x.key v) (v := .int .u64 v.bits) (j := 2) (by rw [List.getElem?_set, if_pos rfl, if_pos hlt]) (by decide) (by simp [Enc.pair, pairOf])
  rw [hg] at hg'; cases hg'
  have e1 : i * Enc.pair.sz + 1 = i * 3 + 1 := rfl
  have e2 : i * Enc.pair.sz + 2 = i * 3 + 2 := rfl
  rw [e1] at hR hO hU
  rw [e2] at hR'
  have eset : setCells w ⟨g, i * 3 + 1, none⟩ 0 [.bool v.has, .int .u64 v.bits] = setCells (setCells w ⟨g, i * 3 + 1, none⟩ 0 [.bool v.has]) ⟨g, i * 3 + 2, none⟩ 0 [.int .u64 v.bits] := by
    simp only [setCells, add_mk]
  rw [e2] at hO2 hU2
  rw [e1] at hO2 hU2
  rw [List.set_set] at hO2
  refine ⟨g, hg, ⟨hR.1, ?_, trivial⟩, by rw [eset]; exact hO2, by rw [eset]; exact hU.trans hU2⟩
  have := hR'.1
  rw [add_mk] at this ⊢
  exact this
end Go.Sx
