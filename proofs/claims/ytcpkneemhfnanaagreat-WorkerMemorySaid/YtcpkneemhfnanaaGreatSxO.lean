import Derived.Test.YtcpkneemhfnanaaGreatSxM
import Derived.Laws.IdiomCopy
/- Numbers and words as bytes, in plain lists. Conditions: none. -/
namespace Go.Sx
set_option linter.unusedSimpArgs false
set_option linter.unusedVariables false

def u64m : Int := 18446744073709551616
theorem drop_cons {α : Type} {l : List α} {k : Nat} {x : α} (h : l[k]? = some x) : l.drop k = x :: l.drop (k + 1) := by
  obtain ⟨hlt, rfl⟩ := List.getElem?_eq_some_iff.1 h
  exact List.drop_eq_getElem_cons hlt
theorem drop_all {α : Type} {l : List α} {k : Nat} (h : l.length ≤ k) : l.drop k = [] := List.drop_eq_nil_of_le h
/-- bytes -/
def Bytes (l : List Int) : Prop := ∀ c ∈ l, 0 ≤ c ∧ c < 256
theorem Bytes.get {l : List Int} (h : Bytes l) {k : Nat} {x : Int} (hx : l[k]? = some x) : 0 ≤ x ∧ x < 256 := h x (List.mem_of_getElem? hx)
theorem Bytes.take {l : List Int} (h : Bytes l) (k : Nat) : Bytes (l.take k) := fun c hc => h c (List.mem_of_mem_take hc)
theorem Bytes.drop {l : List Int} (h : Bytes l) (k : Nat) : Bytes (l.drop k) := fun c hc => h c (List.mem_of_mem_drop hc)
theorem Bytes.append {l r : List Int} (h : Bytes l) (k : Bytes r) : Bytes (l ++ r) := fun c hc => (List.mem_append.1 hc).elim (h c) (k c)
theorem take_snoc {α : Type} {l : List α} {k : Nat} {x : α} (h : l[k]? = some x) : l.take (k + 1) = l.take k ++ [x] := by
  rw [List.take_add_one, h]; rfl

/-! ### bits -/
end Go.Sx
/- Rows as lists of cells: copy, clear, room made by append of zeros. Conditions: none. -/
namespace Go.Sx
set_option linter.unusedSimpArgs false
set_option linter.unusedVariables false
section
variable {P : Program} {α : Type}

/-- a row that may be written -/
def Row (w : World) (g : Nat) (e : TypeId) (cs : List Value) : Prop := w.heap[g]? = some (.cells cs.toArray e (0, 0))

theorem Own.row {w : World} {B : Nat} {e : TypeId} {E : Enc α} {a : Option Addr} {n c : Nat} {l : List α} (h : Own w B e E a n c l) :
    (a = none ∧ l = [] ∧ n = 0 ∧ c = 0) ∨ ∃ g cs, a = some ⟨g, 0, none⟩ ∧ B ≤ g ∧ Row w g e cs ∧ n = l.length ∧ n ≤ c ∧ c ≤ maxLen ∧ cs.length = c * E.sz ∧ cs.take (n * E.sz) = l.flatMap E.f := by
  rcases h.out with h | ⟨g, cur, h1, h2, h3, h4, h5, h6, h7, h8⟩
  · exact .inl h
  · exact .inr ⟨g, cur.toList, h1, h2, by simpa [Row] using h3, h4, h5, h6, by simpa using h7, h8⟩
theorem Own.ofRow {w : World} {B : Nat} {e : TypeId} {E : Enc α} {n c g : Nat} {cs : List Value} {l : List α} (hn : n = l.length) (hb : B ≤ g) (hg : Row w g e cs) (h1 : n ≤ c) (h2 : c ≤ maxLen) (h3 : cs.length = c * E.sz) (h4 : cs.take (n * E.sz) = l.flatMap E.f) :
    Own w B e E (some ⟨g, 0, none⟩) n c l := Own.mk' hn hb hg h1 h2 (by simpa using h3) (by simpa using h4)
theorem Own.take {w : World} {B : Nat} {e : TypeId} {E : Enc α} {a : Option Addr} {n c : Nat} {l : List α} (h : Own w B e E a n c l) {k : Nat} (hk : k ≤ n) : Own w B e E a k c (l.take k) := by
  rcases h.row with ⟨rfl, rfl, rfl, rfl⟩ | ⟨g, cs, rfl, h2, h3, h4, h5, h6, h7, h8⟩
  · obtain rfl : k = 0 := by omega
    simpa using Own.nil _ _ _ _
  · refine Own.ofRow (by simp; omega) h2 h3 (by omega) h6 h7 ?_
    have : (l.take k).flatMap E.f = (l.flatMap E.f).take (k * E.sz) := by
      have hl : l.flatMap E.f = (l.take k).flatMap E.f ++ (l.drop k).flatMap E.f := by rw [← List.flatMap_append, List.take_append_drop]
      rw [hl, List.take_left' (by rw [flat_len, List.length_take, Nat.min_eq_left (by omega)])]
    rw [this, ← h8, List.take_take, Nat.min_eq_left (Nat.mul_le_mul_right _ hk)]
theorem Row.cell {w : World} {g : Nat} {e : TypeId} {cs : List Value} (h : Row w g e cs) (o : Nat) : w.cell? ⟨g, o, none⟩ = cs[o]? := by rw [cell_row h]; simp
theorem Row.lt {w : World} {g : Nat} {e : TypeId} {cs : List Value} (h : Row w g e cs) : g < w.heap.size := lt_of_heap h
theorem Row.seen {w : World} {g : Nat} {e : TypeId} {cs : List Value} (h : Row w g e cs) : w.heap[g]? ≠ some hole := by rw [h]; simp [hole]
theorem Row.upd {S : Nat → Prop} {w w' : World} {g : Nat} {e : TypeId} {cs : List Value} (h : Row w g e cs) (hu : Upd S w w') (hn : ¬ S g) : Row w' g e cs := hu.heap hn h
theorem Row.grew {w w' : World} {g : Nat} {e : TypeId} {cs : List Value} (h : Row w g e cs) (hu : Grew w w') : Row w' g e cs := hu.heap h

/-- one cell of a row is written -/
theorem Row.set1 {w : World} {g : Nat} {e : TypeId} {cs : List Value} (h : Row w g e cs) {o : Nat} (ho : o < cs.length) (v : Value) :
    RoomAt w ⟨g, o, none⟩ 0 [v] ∧ Row (setCells w ⟨g, o, none⟩ 0 [v]) g e (cs.set o v) ∧ Upd (fun b => b = g) w (setCells w ⟨g, o, none⟩ 0 [v]) := by
  obtain ⟨h1, h2⟩ := setCell_row h o v
  refine ⟨roomAt_row (vs := [v]) h (by simp; omega), ?_, ?_⟩
  · show (setCells w ⟨g, o, none⟩ 0 [v]).heap[g]? = _
    simp only [setCells, add_mk, Nat.add_zero]
    rw [h1]; simp
  · simpa only [setCells, add_mk, Nat.add_zero] using h2

/-- slices in a slice -/
def Enc.slice : Enc (Option Addr × Nat × Nat) := ⟨1, fun p => [.slice p.1 p.2.1 p.2.2], fun _ => rfl, by decide, fun _ v h => by simp at h; subst h; rfl⟩
/-- this slice value reads as l -/
def Reads (w : World) (E : Enc α) (p : Option Addr × Nat × Nat) (l : List α) : Prop := Sl w p.1 E l ∧ p.2.1 = l.length ∧ (p.1 = none → p.2.2 = 0) ∧ p.2.1 ≤ p.2.2
theorem Reads.grew {w w' : World} {E : Enc α} {p : Option Addr × Nat × Nat} {l : List α} (h : Reads w E p l) (hg : Grew w w') : Reads w' E p l := ⟨h.1.grew hg, h.2⟩
theorem Reads.cut {w : World} {E : Enc α} {a : Option Addr} {n c : Nat} {l : List α} (h : Reads w E (a, n, c) l) {i j : Nat} (hij : i ≤ j) (hj : j ≤ n) :
    Reads w E (if c = i then a else a.map (fun x => x.add (i * E.sz)), j - i, c - i) ((l.take j).drop i) := by
  obtain ⟨h1, h2, h3, h4⟩ := h
  simp only at h1 h2 h3 h4
  subst h2
  refine ⟨(h1.take j).drop i c (by simp; omega) (by simp; omega), by simp; omega, fun hn => ?_, by simp only; omega⟩
  simp only at hn ⊢
  split at hn
  · omega
  · cases a with
    | none => have := h3 rfl; omega
    | some d => cases hn
theorem Reads.upd {S : Nat → Prop} {w w' : World} {E : Enc α} {p : Option Addr × Nat × Nat} {l : List α} (h : Reads w E p l) (hu : Upd S w w') (hn : ∀ b, Blk p.1 b → ¬ S b) : Reads w' E p l := ⟨h.1.upd hu hn, h.2⟩
theorem Reads.from {w : World} {E : Enc α} {a : Option Addr} {n c : Nat} {l : List α} (h : Reads w E (a, n, c) l) {i : Nat} (hi : i ≤ n) :
    Reads w E (if c = i then a else a.map (fun x => x.add (i * E.sz)), n - i, c - i) (l.drop i) := by
  have := h.cut (i := i) (j := n) hi (Nat.le_refl _)
  have hn : n = l.length := h.2.1
  rw [hn, List.take_length] at this
  rw [hn]; exact this
theorem Reads.at0 {w : World} {E : Enc α} {a : Option Addr} {n c : Nat} {l : List α} (h : Reads w E (a, n, c) l) {k : Nat} (hk : k < n) : ∃ d x, a = some d ∧ l[k]? = some x ∧ CellsAt w (d.add (k * E.sz)) 0 (E.f x) := by
  have hn : n = l.length := h.2.1
  have := h.1.at_ (n := k) (by omega) (by omega)
  simpa using this
theorem Own.reads {w : World} {B : Nat} {e : TypeId} {E : Enc α} {a : Option Addr} {n c : Nat} {l : List α} (h : Own w B e E a n c l) : Reads w E (a, n, c) l := ⟨h.sl, h.len, h.out_none, h.le.1⟩
theorem Fresh.reads {w w' : World} {e : TypeId} {E : Enc α} {v : Value} {l : List α} (h : Fresh w e E l v w') : ∃ a n c, v = .slice a n c ∧ Reads w' E (a, n, c) l ∧ Grew w w' := let ⟨a, n, c, h1, h2, h3⟩ := h; ⟨a, n, c, h1, h2.reads, h3⟩

end
end Go.Sx
