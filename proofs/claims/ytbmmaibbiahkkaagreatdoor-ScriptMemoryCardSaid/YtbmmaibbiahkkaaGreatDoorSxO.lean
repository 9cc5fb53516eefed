/- Rows as lists of cells: copy, clear, room made by append of zeros. Conditions: none. -/
import Derived.Test.YtbmmaibbiahkkaaGreatDoorSxN
import Derived.Laws.IdiomCopy
namespace Go.Sx
set_option linter.unusedSimpArgs false
set_option linter.unusedVariables false
section
variable {P : Program} {α : Type}
def Row (w : World) (g : Nat) (e : TypeId) (cs : List Value) : Prop := w.heap[g]? = some (.cells cs.toArray e (0, 0))
theorem Own.row {w : World} {B : Nat} {e : TypeId} {E : Enc α} {a : Option Addr} {n c : Nat} {l : List α} (h : Own w B e E a n c l) :
  (a = none ∧ l = [] ∧ n = 0 ∧ c = 0) ∨ ∃ g cs, a = some ⟨g, 0, none⟩ ∧ B ≤ g ∧ Row w g e cs ∧ n = l.length ∧ n ≤ c ∧ c ≤ maxLen ∧ cs.length = c * E.sz ∧ cs.take (n * E.sz) = l.flatMap E.f := by
 rcases h.out with h | ⟨g, cur, h1, h2, h3, h4, h5, h6, h7, h8⟩
 ·exact .inl h
 ·exact .inr ⟨g, cur.toList, h1, h2, by simpa [Row] using h3, h4, h5, h6, by simpa using h7, h8⟩
theorem Own.ofRow {w : World} {B : Nat} {e : TypeId} {E : Enc α} {n c g : Nat} {cs : List Value} {l : List α} (hn : n = l.length) (hb : B ≤ g) (hg : Row w g e cs) (h1 : n ≤ c) (h2 : c ≤ maxLen) (h3 : cs.length = c * E.sz) (h4 : cs.take (n * E.sz) = l.flatMap E.f) :
  Own w B e E (some ⟨g, 0, none⟩) n c l := Own.mk' hn hb hg h1 h2 (by simpa using h3) (by simpa using h4)
theorem Own.take {w : World} {B : Nat} {e : TypeId} {E : Enc α} {a : Option Addr} {n c : Nat} {l : List α} (h : Own w B e E a n c l) {k : Nat} (hk : k ≤ n) : Own w B e E a k c (l.take k) := by
 rcases h.row with ⟨rfl, rfl, rfl, rfl⟩ | ⟨g, cs, rfl, h2, h3, h4, h5, h6, h7, h8⟩
 ·obtain rfl : k = 0 := by omega
  simpa using Own.nil _ _ _ _
 ·refine Own.ofRow (by simp; omega) h2 h3 (by omega) h6 h7 ?_
  have : (l.take k).flatMap E.f = (l.flatMap E.f).take (k * E.sz) := by
   have hl : l.flatMap E.f = (l.take k).flatMap E.f ++ (l.drop k).flatMap E.f := by rw [← List.flatMap_append, List.take_append_drop]
   rw [hl, List.take_left' (by rw [Bc, List.length_take, Nat.min_eq_left (by omega)])]
  rw [this, ← h8, List.take_take, Nat.min_eq_left (Nat.mul_le_mul_right _ hk)]
theorem Row.cell {w : World} {g : Nat} {e : TypeId} {cs : List Value} (h : Row w g e cs) (o : Nat) : w.cell? ⟨g, o, none⟩ = cs[o]? := by rw [Kq h]; simp
theorem Row.lt {w : World} {g : Nat} {e : TypeId} {cs : List Value} (h : Row w g e cs) : g < w.heap.size := lt_of_heap h
theorem Row.seen {w : World} {g : Nat} {e : TypeId} {cs : List Value} (h : Row w g e cs) : w.heap[g]? ≠ some hole := by rw [h]; simp [hole]
theorem Row.upd {S : Nat → Prop} {w w' : World} {g : Nat} {e : TypeId} {cs : List Value} (h : Row w g e cs) (hu : Upd S w w') (hn : ¬ S g) : Row w' g e cs := hu.heap hn h
theorem Row.grew {w w' : World} {g : Nat} {e : TypeId} {cs : List Value} (h : Row w g e cs) (hu : Grew w w') : Row w' g e cs := hu.heap h
theorem Row.set1 {w : World} {g : Nat} {e : TypeId} {cs : List Value} (h : Row w g e cs) {o : Nat} (ho : o < cs.length) (v : Value) :
  An w ⟨g, o, none⟩ 0 [v] ∧ Row (setCells w ⟨g, o, none⟩ 0 [v]) g e (cs.set o v) ∧ Upd (fun b => b = g) w (setCells w ⟨g, o, none⟩ 0 [v]) := by
 obtain ⟨h1, h2⟩ := B3 h o v
 refine ⟨Eb (vs := [v]) h (by simp; omega), ?_, ?_⟩
 ·show (setCells w ⟨g, o, none⟩ 0 [v]).heap[g]? = _
  simp only [setCells, Bj, Nat.add_zero]
  rw [h1]; simp
 ·simpa only [setCells, Bj, Nat.add_zero] using h2
def Enc.slice : Enc (Option Addr × Nat × Nat) := ⟨1, fun p => [.slice p.1 p.2.1 p.2.2], fun _ => rfl, by decide, fun _ v h => by simp at h; subst h; rfl⟩
def Reads (w : World) (E : Enc α) (p : Option Addr × Nat × Nat) (l : List α) : Prop := Sl w p.1 E l ∧ p.2.1 = l.length ∧ (p.1 = none → p.2.2 = 0) ∧ p.2.1 ≤ p.2.2
theorem Reads.grew {w w' : World} {E : Enc α} {p : Option Addr × Nat × Nat} {l : List α} (h : Reads w E p l) (hg : Grew w w') : Reads w' E p l := ⟨h.1.grew hg, h.2⟩
theorem Reads.cut {w : World} {E : Enc α} {a : Option Addr} {n c : Nat} {l : List α} (h : Reads w E (a, n, c) l) {i j : Nat} (hij : i ≤ j) (hj : j ≤ n) :
  Reads w E (if c = i then a else a.map (fun x => x.add (i * E.sz)), j - i, c - i) ((l.take j).drop i) := by
 obtain ⟨h1, h2, h3, h4⟩ := h
 simp only at h1 h2 h3 h4
 subst h2
 refine ⟨(h1.take j).drop i c (by simp; omega) (by simp; omega), by simp; omega, fun hn => ?_, by simp only; omega⟩
 simp only at hn ⊢
 split at hn
 ·omega
 ·cases a with
  | none => have := h3 rfl; omega
  | some d => cases hn
theorem Reads.upd {S : Nat → Prop} {w w' : World} {E : Enc α} {p : Option Addr × Nat × Nat} {l : List α} (h : Reads w E p l) (hu : Upd S w w') (hn : ∀ b, Blk p.1 b → ¬ S b) : Reads w' E p l := ⟨h.1.upd hu hn, h.2⟩
theorem Reads.from {w : World} {E : Enc α} {a : Option Addr} {n c : Nat} {l : List α} (h : Reads w E (a, n, c) l) {i : Nat} (hi : i ≤ n) :
  Reads w E (if c = i then a else a.map (fun x => x.add (i * E.sz)), n - i, c - i) (l.drop i) := by
 have := h.cut (i := i) (j := n) hi (Nat.le_refl _)
 have hn : n = l.length := h.2.1
 rw [hn, List.take_length] at this
 rw [hn]; exact this
theorem Reads.at0 {w : World} {E : Enc α} {a : Option Addr} {n c : Nat} {l : List α} (h : Reads w E (a, n, c) l) {k : Nat} (hk : k < n) : ∃ d x, a = some d ∧ l[k]? = some x ∧ Ah w (d.add (k * E.sz)) 0 (E.f x) := by
 have hn : n = l.length := h.2.1
 have := h.1.at_ (n := k) (by omega) (by omega)
 simpa using this
theorem Own.reads {w : World} {B : Nat} {e : TypeId} {E : Enc α} {a : Option Addr} {n c : Nat} {l : List α} (h : Own w B e E a n c l) : Reads w E (a, n, c) l := ⟨h.sl, h.len, h.out_none, h.le.1⟩
theorem Lu {E : Enc α} {w : World} {d : Addr} {l : List α} (hs : Sl w (some d) E l) : ∀ (j : Nat) (u : Value), (l.flatMap E.f)[j]? = some u → w.cell? (d.add j) = some u := by
 intro j u hj
 have hjl : j < l.length * E.sz := by
  rw [← Bc]
  rcases Nat.lt_or_ge j (l.flatMap E.f).length with h' | h'
  ·exact h'
  ·rw [List.getElem?_eq_none h'] at hj; cases hj
 have hdiv : j / E.sz < l.length := (Nat.div_lt_iff_lt_mul E.pos).2 hjl
 have hmod := Nat.mod_lt j E.pos
 obtain ⟨d', hd, hc⟩ := hs (j / E.sz) l[j / E.sz] (by simp [hdiv])
 cases hd
 have hj' := flat_get E l (j / E.sz) (j % E.sz) l[j / E.sz] (by simp [hdiv]) hmod
 have hjj : j / E.sz * E.sz + j % E.sz = j := by rw [Nat.mul_comm]; exact Nat.div_add_mod j E.sz
 rw [hjj, hj] at hj'
 have := Ci hc (j % E.sz) u hj'.symm
 rw [Nat.zero_add, Addr.add_add', hjj] at this
 exact this
end
end Go.Sx
