/- Rows of Put and Drop over a bucket, and a book of them. Conditions: none. -/
import Derived.Test.YtnbknhcpjggabaaSxS
namespace Go.Sx
set_option linter.unusedSimpArgs false
set_option linter.unusedVariables false

/-- an act of a book -/
structure ActV where
  drop : Bool
  c : CellV
def Enc.act : Enc ActV := ⟨7, fun x => .bool x.drop :: x.c.vals, fun _ => rfl, by decide, fun x v h => by simp [CellV.vals] at h; rcases h with rfl | rfl | rfl | rfl | rfl | rfl | rfl <;> rfl⟩

theorem rising_pairwise : ∀ (l : List CellV), risingB l = true ↔ (l.map CellV.key).Pairwise (· < ·)
  | [] => by simp [risingB]
  | [x] => by simp [risingB]
  | x :: y :: r => by
    rw [risingB, Bool.and_eq_true, decide_eq_true_eq, rising_pairwise (y :: r)]
    simp only [List.map_cons, List.pairwise_cons]
    constructor
    · rintro ⟨h, h1, h2⟩
      refine ⟨?_, h1, h2⟩
      intro a ha
      rcases List.mem_cons.1 ha with rfl | ha
      · exact h
      · have := h1 a ha; omega
    · rintro ⟨h1, h2⟩
      exact ⟨h1 _ (by simp), h2⟩

theorem set_perm {α : Type} : ∀ (l : List α) (i : Nat) (x : α), i < l.length → (l.set i x).Perm (x :: l.eraseIdx i)
  | [], i, x, h => by simp at h
  | y :: r, 0, x, h => by simp
  | y :: r, i + 1, x, h => by
    rw [List.set_cons_succ, List.eraseIdx_cons_succ]
    exact ((set_perm r i x (by simpa using h)).cons y).trans (List.Perm.swap _ _ _)
theorem get_perm {α : Type} {l : List α} {i : Nat} {z : α} (h : l[i]? = some z) : l.Perm (z :: l.eraseIdx i) := by
  have hi : i < l.length := by
    rcases Nat.lt_or_ge i l.length with h' | h'
    · exact h'
    · rw [List.getElem?_eq_none h'] at h; cases h
  have := set_perm l i z hi
  have e : l.set i z = l := by
    rw [List.getElem?_eq_getElem hi] at h
    cases h
    exact List.set_getElem_self hi
  rwa [e] at this
/-- the last takes its place -/
def swapOut {α : Type} (l : List α) (k : Nat) (z : α) : List α := (l.set k z).take (l.length - 1)
theorem swapOut_perm {α : Type} {l : List α} {k : Nat} {z : α} (hk : k < l.length) (hz : l[l.length - 1]? = some z) : (swapOut l k z).Perm (l.eraseIdx k) := by
  unfold swapOut
  have hl : (l.set k z).length = l.length := List.length_set
  have hlast : (l.set k z)[l.length - 1]? = some z := by
    rw [List.getElem?_set]
    split
    · first | rfl | (rw [if_pos (by omega)])
    · exact hz
  have e1 : (l.set k z) = (l.set k z).take (l.length - 1) ++ [z] := by
    have := take_snoc hlast
    rw [← this, List.take_of_length_le (by omega)]
  have p1 := set_perm l k z hk
  rw [e1] at p1
  exact List.Perm.cons_inv ((List.perm_append_singleton z _).symm.trans p1)

/-- a book of a bucket's cells -/
structure Book (cs : List CellV) (keys : List Int) (last : List CellV) : Prop where
  rising : risingB cs = true
  most : cs.length ≤ 16
  keysOf : keys = last.map CellV.key
  perm : last.Perm cs
theorem Book.nil : Book [] [] [] := ⟨rfl, by decide, rfl, List.Perm.refl _⟩
theorem Book.len {cs last : List CellV} {keys : List Int} (h : Book cs keys last) : keys.length = cs.length ∧ last.length = cs.length := by
  have := h.perm.length_eq
  rw [h.keysOf, List.length_map]; exact ⟨this, this⟩
theorem Book.nodup {cs last : List CellV} {keys : List Int} (h : Book cs keys last) : keys.Nodup := by
  have h1 := (rising_pairwise _).1 h.rising
  have h2 : (cs.map CellV.key).Nodup := h1.imp fun h => by omega
  rw [h.keysOf]
  exact (h.perm.map CellV.key).nodup_iff.2 h2

/-- where a key stands -/
structure At (keys : List Int) (key : Int) (k : Nat) : Prop where
  le : k ≤ keys.length
  ahead : ∀ j, j < k → keys[j]? ≠ some key
  there : k < keys.length → keys[k]? = some key

theorem findB_mem {cs : List CellV} (hr : risingB cs = true) {x : CellV} (hx : x ∈ cs) : ∃ i, findB cs x.key = (i, true) ∧ cs[i]? = some x := by
  obtain ⟨i, hi⟩ := List.getElem?_of_mem hx
  have hp := (rising_pairwise _).1 hr
  have hil : i < cs.length := by
    rcases Nat.lt_or_ge i cs.length with h' | h'
    · exact h'
    · rw [List.getElem?_eq_none h'] at hi; cases hi
  refine ⟨i, ?_, hi⟩
  have htw : (cs.takeWhile fun y => decide (y.key < x.key)).length = i := takeWhile_len _ cs i (Nat.le_of_lt hil) (fun j y hj hy => ?_) (fun y hy => ?_)
  · rw [findB, if_pos hr, htw, hi]; simp
  · have := List.pairwise_iff_getElem.1 hp j i (by simp; omega) (by simpa using hil) hj
    simp only [List.getElem_map] at this
    rw [List.getElem?_eq_getElem (by omega)] at hy hi
    cases hy; cases hi; simpa using this
  · rw [hi] at hy; cases hy; simp
theorem findB_none {cs : List CellV} (hr : risingB cs = true) {key : Int} (h : ∀ x ∈ cs, x.key ≠ key) : (findB cs key).2 = false := by
  rw [findB, if_pos hr]
  simp only
  cases hc : cs[(cs.takeWhile fun x => decide (x.key < key)).length]? with
  | none => rfl
  | some y => have := h y (List.mem_of_getElem? hc); simpa using this

/-- a cell dropped, and the book with it -/
theorem Book.drop_in {cs last : List CellV} {keys : List Int} (h : Book cs keys last) {key : Int} {k : Nat} (ha : At keys key k) (hk : k < keys.length) {kl : Int} {xl : CellV} (hkl : keys[keys.length - 1]? = some kl) (hxl : last[keys.length - 1]? = some xl) :
    dropC cs key = (cs.filter fun x => !(x.key == key), 0) ∧ Book (cs.filter fun x => !(x.key == key)) ((keys.set k kl).take (keys.length - 1)) ((last.set k xl).take (keys.length - 1)) := by
  have hln := h.len
  have hkk := ha.there hk
  have hlast : ∃ z, last[k]? = some z ∧ z.key = key := by
    rw [h.keysOf, List.getElem?_map] at hkk
    cases hz : last[k]? with
    | none => rw [hz] at hkk; cases hkk
    | some z => rw [hz] at hkk; simp at hkk; exact ⟨z, rfl, hkk⟩
  obtain ⟨z, hz, hzk⟩ := hlast
  have hll : keys.length = last.length := by omega
  have hkl' : kl = xl.key := by rw [h.keysOf, List.getElem?_map, ← h.keysOf, hxl] at hkl; simpa using hkl.symm
  have p1 : (swapOut last k xl).Perm (last.eraseIdx k) := swapOut_perm (by omega) (by rw [← hll]; exact hxl)
  have hnd : (last.map CellV.key).Nodup := h.keysOf ▸ h.nodup
  have hf : last.Perm (z :: last.eraseIdx k) := get_perm hz
  have hfil : (last.filter fun x => !(x.key == key)).Perm (last.eraseIdx k) := by
    have p2 := hf.filter fun x => !(x.key == key)
    have e : ((z :: last.eraseIdx k).filter fun x => !(x.key == key)) = (last.eraseIdx k).filter fun x => !(x.key == key) := by
      rw [List.filter_cons]; simp [hzk]
    rw [e] at p2
    have e2 : ((last.eraseIdx k).filter fun x => !(x.key == key)) = last.eraseIdx k := by
      apply List.filter_eq_self.2
      intro y hy
      have hnd2 := (hf.map CellV.key).nodup_iff.1 hnd
      rw [List.map_cons, List.nodup_cons] at hnd2
      have : y.key ≠ key := fun e => hnd2.1 (by rw [hzk, ← e]; exact List.mem_map_of_mem hy)
      simpa using this
    rw [e2] at p2; exact p2
  refine ⟨by rw [dropC, if_neg (by rw [h.rising]; simp)], ⟨?_, ?_, ?_, ?_⟩⟩
  · rw [rising_pairwise]
    exact ((rising_pairwise _).1 h.rising).sublist (List.filter_sublist.map _)
  · exact Nat.le_trans (List.length_filter_le _ _) h.most
  · rw [h.keysOf, List.length_map, hkl', ← List.map_set, List.map_take]
  · have e : (last.set k xl).take (keys.length - 1) = swapOut last k xl := by rw [swapOut, hll]
    rw [e]
    exact (p1.trans hfil.symm).trans (h.perm.filter _)
theorem Book.drop_out {cs last : List CellV} {keys : List Int} (h : Book cs keys last) {key : Int} {k : Nat} (ha : At keys key k) (hk : ¬ k < keys.length) : dropC cs key = (cs, 0) := by
  have hno : ∀ x ∈ cs, x.key ≠ key := fun x hx e => by
    have hx' := h.perm.mem_iff.2 hx
    obtain ⟨j, hj⟩ := List.getElem?_of_mem hx'
    have hjl : j < last.length := by
      rcases Nat.lt_or_ge j last.length with h' | h'
      · exact h'
      · rw [List.getElem?_eq_none h'] at hj; cases hj
    have := h.len
    exact ha.ahead j (by have := ha.le; omega) (by rw [h.keysOf, List.getElem?_map, hj]; simp [e])
  rw [dropC, if_neg (by rw [h.rising]; simp)]
  rw [List.filter_eq_self.2 fun x hx => by simpa using hno x hx]

theorem Book.miss {cs last : List CellV} {keys : List Int} (h : Book cs keys last) {key : Int} {k : Nat} (ha : At keys key k) (hk : ¬ k < keys.length) : ∀ x ∈ cs, x.key ≠ key := fun x hx e => by
  have hx' := h.perm.mem_iff.2 hx
  obtain ⟨j, hj⟩ := List.getElem?_of_mem hx'
  have hjl : j < last.length := by
    rcases Nat.lt_or_ge j last.length with h' | h'
    · exact h'
    · rw [List.getElem?_eq_none h'] at hj; cases hj
  have := h.len
  exact ha.ahead j (by have := ha.le; omega) (by rw [h.keysOf, List.getElem?_map, hj]; simp [e])

/-- a cell put: its key was there -/
theorem Book.put_in {cs last : List CellV} {keys : List Int} (h : Book cs keys last) {x : CellV} {k : Nat} (ha : At keys x.key k) (hk : k < keys.length) :
    ∃ cs', putC cs x = (cs', 0) ∧ Book cs' keys (last.set k x) := by
  have hln := h.len
  have hkk := ha.there hk
  have hlast : ∃ z, last[k]? = some z ∧ z.key = x.key := by
    rw [h.keysOf, List.getElem?_map] at hkk
    cases hz : last[k]? with
    | none => rw [hz] at hkk; cases hkk
    | some z => rw [hz] at hkk; simp at hkk; exact ⟨z, rfl, hkk⟩
  obtain ⟨z, hz, hzk⟩ := hlast
  have hzc : z ∈ cs := h.perm.mem_iff.1 (List.mem_of_getElem? hz)
  obtain ⟨i, hf, hi⟩ := findB_mem h.rising hzc
  rw [hzk] at hf
  have hil : i < cs.length := by
    rcases Nat.lt_or_ge i cs.length with h' | h'
    · exact h'
    · rw [List.getElem?_eq_none h'] at hi; cases hi
  refine ⟨cs.set i x, by rw [putC, if_neg (by rw [h.rising]; simp), hf]; simp, ⟨?_, by simpa using h.most, ?_, ?_⟩⟩
  · rw [rising_pairwise, List.map_set]
    have : (cs.map CellV.key).set i x.key = cs.map CellV.key := by
      have e : (cs.map CellV.key)[i]? = some x.key := by rw [List.getElem?_map, hi]; simp [hzk]
      rw [List.getElem?_eq_getElem (by simpa using hil)] at e
      cases e' : (cs.map CellV.key)
      · simp
      · rw [← e']
        have e2 : (cs.map CellV.key)[i]'(by simpa using hil) = x.key := by simpa using e
        rw [← e2]; exact List.set_getElem_self (by simpa using hil)
    rw [this]; exact (rising_pairwise _).1 h.rising
  · rw [List.map_set, ← h.keysOf]
    rw [List.getElem?_eq_getElem hk] at hkk
    have e2 : keys[k] = x.key := by simpa using hkk
    rw [← e2]; exact (List.set_getElem_self hk).symm
  · have p1 := set_perm last k x (by omega)
    have p2 := set_perm cs i x hil
    have p3 : (last.eraseIdx k).Perm (cs.eraseIdx i) := List.Perm.cons_inv (a := z) (((get_perm hz).symm.trans h.perm).trans (get_perm hi))
    exact (p1.trans (p3.cons x)).trans p2.symm
/-- a cell put: its key is new -/
theorem Book.put_new {cs last : List CellV} {keys : List Int} (h : Book cs keys last) {x : CellV} {k : Nat} (ha : At keys x.key k) (hk : ¬ k < keys.length) (hroom : keys.length ≠ 16) :
    ∃ cs', putC cs x = (cs', 0) ∧ Book cs' (keys ++ [x.key]) (last ++ [x]) := by
  have hln := h.len
  have hmost := h.most
  have hno := h.miss ha hk
  have hf := findB_none h.rising hno
  have h16 : ¬ 16 ≤ cs.length := by omega
  refine ⟨cs.take (findB cs x.key).1 ++ x :: cs.drop (findB cs x.key).1, by rw [putC, if_neg (by rw [h.rising]; simp), if_neg (fun h => h16 h.2), if_neg (by rw [hf]; simp)], ⟨?_, ?_, ?_, ?_⟩⟩
  · rw [rising_pairwise]
    have hp := (rising_pairwise _).1 h.rising
    obtain ⟨i, hi⟩ : ∃ i, i = (findB cs x.key).1 := ⟨_, rfl⟩
    rw [← hi]
    have htw : (cs.takeWhile fun y => decide (y.key < x.key)).length = i := by rw [hi, findB, if_pos h.rising]
    have hlo : ∀ y ∈ cs.take i, y.key < x.key := by
      intro y hy
      have e : cs.take i = cs.takeWhile fun y => decide (y.key < x.key) := by
        have h1 := List.takeWhile_append_dropWhile (p := fun y : CellV => decide (y.key < x.key)) (l := cs)
        conv => lhs; rw [← h1]
        rw [← htw, List.take_left]
      rw [e] at hy
      have hall := List.all_takeWhile (p := fun y : CellV => decide (y.key < x.key)) (l := cs)
      rw [List.all_eq_true] at hall
      simpa using hall y hy
    have hhi : ∀ y ∈ cs.drop i, x.key < y.key := by
      intro y hy
      have e : cs.drop i = cs.dropWhile fun y => decide (y.key < x.key) := by
        have h1 := List.takeWhile_append_dropWhile (p := fun y : CellV => decide (y.key < x.key)) (l := cs)
        conv => lhs; rw [← h1]
        rw [← htw, List.drop_left]
      cases hd : cs.dropWhile fun y => decide (y.key < x.key) with
      | nil => rw [e, hd] at hy; simp at hy
      | cons z t =>
        have hz : ¬ z.key < x.key := by
          have := List.head_dropWhile_not (fun y : CellV => decide (y.key < x.key)) (l := cs) (by rw [hd]; simp)
          simp only [hd, List.head_cons] at this
          simpa using this
        have hzm : z ∈ cs := List.mem_of_mem_drop (i := i) (by rw [e, hd]; simp)
        have hz2 : x.key < z.key := by have := hno z hzm; omega
        rw [e, hd] at hy
        rcases List.mem_cons.1 hy with rfl | hy
        · exact hz2
        · have hsub : ((z :: t).map CellV.key).Pairwise (· < ·) := by
            have : (cs.drop i).map CellV.key = (z :: t).map CellV.key := by rw [e, hd]
            rw [← this]
            exact hp.sublist ((List.drop_sublist _ _).map _)
          rw [List.map_cons, List.pairwise_cons] at hsub
          have := hsub.1 _ (List.mem_map_of_mem hy)
          omega
    rw [List.map_append, List.map_cons, List.pairwise_append, List.pairwise_cons]
    refine ⟨hp.sublist ((List.take_sublist _ _).map _), ⟨?_, hp.sublist ((List.drop_sublist _ _).map _)⟩, ?_⟩
    · intro a ha'
      obtain ⟨y, hy, rfl⟩ := List.mem_map.1 ha'
      exact hhi y hy
    · intro a ha' b hb
      obtain ⟨y, hy, rfl⟩ := List.mem_map.1 ha'
      rcases List.mem_cons.1 hb with rfl | hb
      · exact hlo y hy
      · obtain ⟨z, hz, rfl⟩ := List.mem_map.1 hb
        have := hlo y hy; have := hhi z hz; omega
  · simp only [List.length_append, List.length_cons, List.length_take, List.length_drop]; omega
  · rw [List.map_append, ← h.keysOf]; rfl
  · refine (List.perm_append_singleton x last).trans ((h.perm.cons x).trans ?_)
    have := List.perm_middle (a := x) (l₁ := cs.take (findB cs x.key).1) (l₂ := cs.drop (findB cs x.key).1)
    rw [List.take_append_drop] at this
    exact this.symm
/-- a cell put: no place -/
theorem Book.put_full {cs last : List CellV} {keys : List Int} (h : Book cs keys last) {x : CellV} {k : Nat} (ha : At keys x.key k) (hk : ¬ k < keys.length) (hfull : keys.length = 16) : putC cs x = ([], 92) := by
  have hln := h.len
  have hf := findB_none h.rising (h.miss ha hk)
  rw [putC, if_neg (by rw [h.rising]; simp), if_pos ⟨hf, by omega⟩]
end Go.Sx
