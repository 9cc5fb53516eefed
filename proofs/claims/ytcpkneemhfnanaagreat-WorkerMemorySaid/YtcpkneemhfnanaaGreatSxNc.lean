/- Rows that are written over, item by item; two appends in either order. Conditions: none. -/
import Derived.Test.YtcpkneemhfnanaaGreatSxO
namespace Go.Sx
set_option linter.unusedSimpArgs false
set_option linter.unusedVariables false
section
variable {P : Program} {α : Type}

/-- rows stay rows, as long as they were -/
def Shape (w w' : World) : Prop := ∀ (b : Nat) (cs : Array Value) (e : TypeId), w.heap[b]? = some (.cells cs e (0, 0)) → ∃ cs', w'.heap[b]? = some (.cells cs' e (0, 0)) ∧ cs'.size = cs.size
theorem Shape.refl (w : World) : Shape w w := fun _ cs _ h => ⟨cs, h, rfl⟩
theorem Shape.trans {a b c : World} (h : Shape a b) (k : Shape b c) : Shape a c := fun x cs e hx => by
  obtain ⟨cs', h1, h2⟩ := h x cs e hx
  obtain ⟨cs'', h3, h4⟩ := k x cs' e h1
  exact ⟨cs'', h3, h4.trans h2⟩
theorem Shape.set {w : World} {g o : Nat} {cs : Array Value} {e : TypeId} (hg : w.heap[g]? = some (.cells cs e (0, 0))) (vs : List Value) : Shape w (setCells w ⟨g, o, none⟩ 0 vs) := by
  obtain ⟨cs', h1, h2, -, h4⟩ := setCells_row (vs := vs) (o := o) (i := 0) hg
  intro b cb eb hb
  by_cases hbg : b = g
  · subst hbg; rw [hg] at hb
    obtain ⟨rfl, rfl, -⟩ := Obj.cells.inj (Option.some.inj hb)
    exact ⟨cs', h1, h2⟩
  · exact ⟨cb, h4.heap hbg hb, rfl⟩

/-- what is written over stays in these blocks -/
def Over (S : Nat → Prop) (w w' : World) : Prop := Upd S w w' ∧ Shape w w'
theorem Over.refl (S : Nat → Prop) (w : World) : Over S w w := ⟨Upd.refl _ _, Shape.refl _⟩
theorem Over.trans {S : Nat → Prop} {a b c : World} (h : Over S a b) (k : Over S b c) : Over S a c := ⟨h.1.trans k.1, h.2.trans k.2⟩

theorem Over.write {S : Nat → Prop} {w w1 : World} {B : Nat} {e : TypeId} {E : Enc α} {a : Option Addr} {n c : Nat} {l : List α} (h : Over S w w1) (ho : Own w B e E a n c l) (hS : ∀ b, Blk a b → S b) {j : Nat} (hj : j < n) {vs : List Value} (hv : vs.length = E.sz) :
    ∃ d, a = some d ∧ RoomAt w1 (d.add (j * E.sz)) 0 vs ∧ Over S w (setCells w1 (d.add (j * E.sz)) 0 vs) := by
  rcases ho.out with ⟨-, -, rfl, -⟩ | ⟨g, cur, rfl, hb, hg, hn, h1, h2, h3, h4⟩
  · omega
  · obtain ⟨cs', hg', hs'⟩ := h.2 g cur e hg
    have hle : j * E.sz + E.sz ≤ c * E.sz := by
      rw [← Nat.succ_mul]; exact Nat.mul_le_mul_right _ (by omega)
    refine ⟨_, rfl, ?_⟩
    rw [add_mk, Nat.zero_add]
    obtain ⟨cs2, k1, k2, k3, k4⟩ := setCells_row (vs := vs) (o := j * E.sz) (i := 0) hg'
    refine ⟨roomAt_row hg' (by omega), h.1.trans (k4.mono fun b _ hb => ?_), h.2.trans (Shape.set hg' vs)⟩
    subst hb
    exact hS _ ⟨_, rfl, rfl⟩

/-- a loop that writes a row over: a row still -/
theorem fill_own {K : World → Prop} {w1 : World} {B : Nat} {e : TypeId} {E : Enc α} {a : Option Addr} {n c : Nat} {l : List α} (ho : Own w1 B e E a n c l) (x : α) (hk : ∀ l' w2, l'.length = l.length → Own w2 B e E a n c l' → Upd (Blk a) w1 w2 → K w2) :
    ∃ (I : Int → World → Prop) (m : Int → World → Nat), I 0 w1 ∧ ∀ (i : Int) (w2 : World), I i w2 → ((decide (i < ((n : Nat) : Int)) = true → withSome a (fun d => (0 ≤ i ∧ i < (n : Nat)) ∧ RoomAt w2 (Addr.add d (i.toNat * E.sz)) 0 (E.f x) ∧
      ∀ w3, w3 = setCells w2 (Addr.add d (i.toNat * E.sz)) 0 (E.f x) → (I (IntKind.i64.wrap (i + 1)) w3 ∧ m (IntKind.i64.wrap (i + 1)) w3 < m i w2))) ∧ (decide (i < ((n : Nat) : Int)) = false → K w2)) := by
  have hm : n ≤ maxLen := ho.le.2.1
  have hn : n = l.length := ho.len
  refine ⟨fun i w2 => ∃ (k : Nat) (l' : List α), i = k ∧ k ≤ n ∧ l'.length = l.length ∧ Own w2 B e E a n c l' ∧ Upd (Blk a) w1 w2, fun i _ => n - i.toNat, ⟨0, l, rfl, Nat.zero_le _, rfl, ho, Upd.refl _ _⟩, ?_⟩
  rintro i w2 ⟨k, l', rfl, hkn, hl', h2, hu⟩
  refine ⟨fun hlt => ?_, fun _ => hk l' _ hl' h2 hu⟩
  simp only [decide_eq_true_eq] at hlt
  have hw : IntKind.i64.wrap ((k : Int) + 1) = ((k + 1 : Nat) : Int) := by rw [IntKind.wrap_i64]; simp only [maxLen] at hm; omega
  obtain ⟨d, hd, hr, h3, hu3⟩ := h2.set (i := k) (by omega) x
  rw [hd]
  refine ⟨⟨by omega, by omega⟩, hr, fun w3 hw3 => ?_⟩
  subst hw3
  rw [hw]
  exact ⟨⟨k + 1, l'.set k x, rfl, by omega, by simpa using hl', by rw [← hd]; exact h3, by rw [← hd]; exact hu.trans hu3⟩, by show n - (((k + 1 : Nat) : Int)).toNat < n - ((k : Int)).toNat; omega⟩
/-- a loop that writes a row over that is read anew each time -/
theorem fill_at {S : Nat → Prop} {K : World → Prop} {w w1 : World} {B : Nat} {e : TypeId} {E : Enc α} {a : Option Addr} {n c : Nat} {l : List α} (h : Over S w w1) (ho : Own w B e E a n c l) (hS : ∀ b, Blk a b → S b) {vs : List Value} (hv : vs.length = E.sz)
    {ar : Option Addr} {dr : Addr} (har : ar = some dr) (A : Addr → Addr) {i0 : Int} {n0 : Nat} (hb0 : 0 ≤ i0 ∧ i0 < (n0 : Nat)) (hA : ∀ w2, Over S w w2 → w2.cell? (A dr) = some (.slice a n c)) (hk : ∀ w2, Over S w w2 → K w2) :
    ∃ (I : Int → World → Prop) (m : Int → World → Nat), I 0 w1 ∧ ∀ (i : Int) (w2 : World), I i w2 → withSome ar (fun d1 => (0 ≤ i0 ∧ i0 < (n0 : Nat)) ∧ ∃ (a1 : Option Addr) (n1 c1 : Nat), w2.cell? (A d1) = some (.slice a1 n1 c1) ∧
      ((decide (i < ((n1 : Nat) : Int)) = true → withSome ar (fun d2 => (0 ≤ i0 ∧ i0 < (n0 : Nat)) ∧ ∃ (a2 : Option Addr) (n2 c2 : Nat), w2.cell? (A d2) = some (.slice a2 n2 c2) ∧ withSome a2 (fun d => (0 ≤ i ∧ i < (n2 : Nat)) ∧ RoomAt w2 (Addr.add d (i.toNat * E.sz)) 0 vs ∧
      ∀ w3, w3 = setCells w2 (Addr.add d (i.toNat * E.sz)) 0 vs → ∀ j : Int, j = IntKind.i64.wrap (i + 1) → (I j w3 ∧ m j w3 < m i w2)))) ∧ (decide (i < ((n1 : Nat) : Int)) = false → K w2))) := by
  subst har
  have hm : n ≤ maxLen := ho.le.2.1
  refine ⟨fun i w2 => ∃ k : Nat, i = k ∧ k ≤ n ∧ Over S w w2, fun i _ => n - i.toNat, ⟨0, rfl, Nat.zero_le _, h⟩, ?_⟩
  rintro i w2 ⟨k, rfl, hkn, h2⟩
  refine ⟨hb0, _, _, _, hA _ h2, fun hlt => ⟨hb0, _, _, _, hA _ h2, ?_⟩, fun _ => hk _ h2⟩
  simp only [decide_eq_true_eq] at hlt
  have hw : IntKind.i64.wrap ((k : Int) + 1) = ((k + 1 : Nat) : Int) := by rw [IntKind.wrap_i64]; simp only [maxLen] at hm; omega
  obtain ⟨d, rfl, hr, h3⟩ := h2.write ho hS (j := k) (by omega) hv
  refine ⟨⟨by omega, by omega⟩, hr, fun w3 hw3 j hj => ?_⟩
  subst hw3; subst hj
  rw [hw]
  exact ⟨⟨k + 1, rfl, by omega, h3⟩, by show n - (((k + 1 : Nat) : Int)).toNat < n - ((k : Int)).toNat; omega⟩

end
end Go.Sx
