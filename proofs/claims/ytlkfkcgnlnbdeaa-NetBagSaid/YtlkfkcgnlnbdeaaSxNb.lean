/- Which of the messages sent are still on their way. Conditions: none. -/
import Derived.Test.YtlkfkcgnlnbdeaaSxNa
namespace Go.Sx
set_option linter.unusedSimpArgs false
set_option linter.unusedVariables false
section
variable {α : Type}
def alive : Nat → List α → List Bool → List (Int × α)
  | i, c :: cs, g :: gs => if g then alive (i + 1) cs gs else ((i : Int), c) :: alive (i + 1) cs gs
  | _, _, _ => []
theorem alive_append : ∀ (i : Nat) (a b : List α) (g h : List Bool), a.length = g.length → alive i (a ++ b) (g ++ h) = alive i a g ++ alive (i + a.length) b h
  | i, [], b, [], h, _ => by simp [alive]
  | i, [], b, g :: gs, h, e => by simp at e
  | i, c :: cs, b, [], h, e => by simp at e
  | i, c :: cs, b, g :: gs, h, e => by
    simp only [List.cons_append, alive, List.length_cons]
    rw [alive_append (i + 1) cs b gs h (by simpa using e), show i + 1 + cs.length = i + (cs.length + 1) from by omega]
    split <;> simp
theorem alive_snoc (a : List α) (g : List Bool) (c : α) (h : a.length = g.length) : alive 0 (a ++ [c]) (g ++ [false]) = alive 0 a g ++ [((a.length : Int), c)] := by
  rw [alive_append 0 a [c] g [false] h]; simp [alive]
theorem alive_keys : ∀ (i : Nat) (a : List α) (g : List Bool), ∀ x ∈ alive i a g, (i : Int) ≤ x.1 ∧ x.1 < i + a.length
  | i, [], g, x, hx => by simp [alive] at hx
  | i, c :: cs, [], x, hx => by simp [alive] at hx
  | i, c :: cs, g :: gs, x, hx => by
    simp only [alive] at hx
    split at hx
    · have := alive_keys (i + 1) cs gs x hx; simp only [List.length_cons]; omega
    · rcases List.mem_cons.1 hx with rfl | hx
      · simp only [List.length_cons]; omega
      · have := alive_keys (i + 1) cs gs x hx; simp only [List.length_cons]; omega
theorem split_at {β : Type} {l : List β} {k : Nat} {x : β} (h : l[k]? = some x) : l = l.take k ++ x :: l.drop (k + 1) := by
  obtain ⟨hk, hx⟩ := List.getElem?_eq_some_iff.1 h
  have := List.drop_eq_getElem_cons hk
  rw [hx] at this
  rw [← this, List.take_append_drop]
/-- at a place: what is before, it, what is behind -/
theorem alive_split {a : List α} {g : List Bool} {k : Nat} {c : α} {b : Bool} (h : a.length = g.length) (hc : a[k]? = some c) (hb : g[k]? = some b) :
    alive 0 a g = alive 0 (a.take k) (g.take k) ++ ((if b then [] else [((k : Int), c)]) ++ alive (k + 1) (a.drop (k + 1)) (g.drop (k + 1))) := by
  have hk := (List.getElem?_eq_some_iff.1 hc).1
  conv => lhs; rw [split_at hc, split_at hb]
  rw [alive_append 0 _ _ _ _ (by simp; omega)]
  have e : 0 + (a.take k).length = k := by simp; omega
  rw [e]
  simp only [alive]
  cases b <;> simp
theorem getM_append {m m' : List (Int × α)} {k : Int} : getM (m ++ m') k = (getM m k).orElse fun _ => getM m' k := by
  unfold getM
  rw [List.find?_append]
  cases m.find? (fun p => p.1 == k) <;> simp
theorem getM_out {m : List (Int × α)} {k : Int} (h : ∀ x ∈ m, x.1 ≠ k) : getM m k = none := by
  unfold getM
  rw [List.find?_eq_none.2 (by intro x hx; simpa using h x hx)]; rfl
theorem alive_get {a : List α} {g : List Bool} {k : Nat} {c : α} {b : Bool} (h : a.length = g.length) (hc : a[k]? = some c) (hb : g[k]? = some b) : getM (alive 0 a g) k = if b then none else some c := by
  have hk := (List.getElem?_eq_some_iff.1 hc).1
  rw [alive_split h hc hb, getM_append, getM_append]
  rw [getM_out (m := alive 0 (a.take k) (g.take k)) fun x hx => by have := alive_keys 0 _ _ x hx; rw [List.length_take] at this; omega]
  rw [getM_out (m := alive (k + 1) (a.drop (k + 1)) (g.drop (k + 1))) fun x hx => by have := alive_keys (k + 1) _ _ x hx; omega]
  cases b <;> simp [getM]
theorem alive_none {a : List α} {g : List Bool} {k : Int} (h : k < 0 ∨ (a.length : Int) ≤ k) : getM (alive 0 a g) k = none :=
  getM_out fun x hx => by have := alive_keys 0 a g x hx; omega
theorem filter_all {m : List (Int × α)} {k : Int} (h : ∀ x ∈ m, x.1 ≠ k) : delM m k = m := by
  unfold delM
  exact List.filter_eq_self.2 fun x hx => by simpa using h x hx
theorem alive_del {a : List α} {g : List Bool} {k : Nat} {c : α} {b : Bool} (h : a.length = g.length) (hc : a[k]? = some c) (hb : g[k]? = some b) : delM (alive 0 a g) k = alive 0 a (g.set k true) := by
  have hk := (List.getElem?_eq_some_iff.1 hc).1
  have hkg := (List.getElem?_eq_some_iff.1 hb).1
  have hb' : (g.set k true)[k]? = some true := by simp [hkg]
  rw [alive_split h hc hb, alive_split (g := g.set k true) (by simpa using h) hc hb']
  have e1 : (g.set k true).take k = g.take k := by
    apply List.ext_getElem?; intro j
    simp only [List.getElem?_take]
    split
    · rw [List.getElem?_set_ne (by omega)]
    · rfl
  have e2 : (g.set k true).drop (k + 1) = g.drop (k + 1) := by apply List.ext_getElem?; intro j; simp only [List.getElem?_drop]; rw [List.getElem?_set_ne (by omega)]
  rw [e1, e2]
  unfold delM
  rw [List.filter_append, List.filter_append]
  have f1 : (alive 0 (a.take k) (g.take k)).filter (fun p => !(p.1 == (k : Int))) = alive 0 (a.take k) (g.take k) := filter_all fun x hx => by have := alive_keys 0 _ _ x hx; rw [List.length_take] at this; omega
  have f2 : (alive (k + 1) (a.drop (k + 1)) (g.drop (k + 1))).filter (fun p => !(p.1 == (k : Int))) = alive (k + 1) (a.drop (k + 1)) (g.drop (k + 1)) := filter_all fun x hx => by have := alive_keys (k + 1) _ _ x hx; omega
  rw [f1, f2]
  cases b <;> simp
theorem alive_len {a : List α} {g : List Bool} {k : Nat} {c : α} (h : a.length = g.length) (hc : a[k]? = some c) (hb : g[k]? = some false) : (alive 0 a (g.set k true)).length + 1 = (alive 0 a g).length := by
  have hkg := (List.getElem?_eq_some_iff.1 hb).1
  have hb' : (g.set k true)[k]? = some true := by simp [hkg]
  rw [alive_split h hc hb, alive_split (g := g.set k true) (by simpa using h) hc hb']
  have e1 : (g.set k true).take k = g.take k := by
    apply List.ext_getElem?; intro j
    simp only [List.getElem?_take]
    split
    · rw [List.getElem?_set_ne (by omega)]
    · rfl
  have e2 : (g.set k true).drop (k + 1) = g.drop (k + 1) := by apply List.ext_getElem?; intro j; simp only [List.getElem?_drop]; rw [List.getElem?_set_ne (by omega)]
  rw [e1, e2]; simp; omega
theorem alive_at {a : List α} {g : List Bool} {k : Nat} {c : α} (h : a.length = g.length) (hc : a[k]? = some c) (hb : g[k]? = some false) : (alive 0 a g)[(alive 0 (a.take k) (g.take k)).length]? = some ((k : Int), c) := by
  rw [alive_split h hc hb, List.getElem?_append_right (Nat.le_refl _)]; simp
theorem alive_step {a : List α} {g : List Bool} {k : Nat} {c : α} {b : Bool} (h : a.length = g.length) (hc : a[k]? = some c) (hb : g[k]? = some b) : (alive 0 (a.take (k + 1)) (g.take (k + 1))).length = (alive 0 (a.take k) (g.take k)).length + if b then 0 else 1 := by
  have hk := (List.getElem?_eq_some_iff.1 hc).1
  rw [take_snoc hc, take_snoc hb, alive_append _ _ _ _ _ (by simp; omega), List.length_append]
  cases b <;> simp [alive]
end
end Go.Sx
