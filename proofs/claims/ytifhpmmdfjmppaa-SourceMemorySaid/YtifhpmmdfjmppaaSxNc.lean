/- Rows that are written over, item by item; two appends in either order. Conditions: none. -/
import Derived.Test.YtifhpmmdfjmppaaSxO
namespace Go.Sx
set_option linter.unusedSimpArgs false
set_option linter.unusedVariables false
section
variable {P : Program} {α : Type}

/-- rows stay rows, as long as they were -/
def Shape (w w' : World) : Prop := ∀ (b : Nat) (cs : Array Value) (e : TypeId), w.heap[b]? = some (.cells cs e (0, 0)) → ∃ cs', w'.heap[b]? = some (.cells cs' e (0, 0)) ∧ cs'.size = cs.size
theorem Shape.refl (w : World) : Shape w w := fun _ cs _ h => ⟨cs, h, rfl⟩
theorem Shape.trans {a b c : World} (h : Shape a b) (k : Shape b c) : Shape a c := fun x cs e hx => by
  obtain ⟨cs', h1, h2⟩ := h x cs e hx
  obtain ⟨cs'', h3, h4⟩ := k x cs' e h1
  exact ⟨cs'', h3, h4.trans h2⟩
theorem Shape.set {w : World} {g o : Nat} {cs : Array Value} {e : TypeId} (hg : w.heap[g]? = some (.cells cs e (0, 0))) (vs : List Value) : Shape w (setCells w ⟨g, o, none⟩ 0 vs) := by
  obtain ⟨cs', h1, h2, -, h4⟩ := setCells_row (vs := vs) (o := o) (i := 0) hg
  intro b cb eb hb
  by_cases hbg : b = g
  · subst hbg; rw [hg] at hb
    obtain ⟨rfl, rfl, -⟩ := Obj.cells.inj (Option.some.inj hb)
    exact ⟨cs', h1, h2⟩
  · exact ⟨cb, h4.heap hbg hb, rfl⟩

/-- what is written over stays in these blocks -/
def Over (S : Nat → Prop) (w w' : World) : Prop := Upd S w w' ∧ Shape w w'
theorem Over.refl (S : Nat → Prop) (w : World) : Over S w w := ⟨Upd.refl _ _, Shape.refl _⟩
theorem Over.trans {S : Nat → Prop} {a b c : World} (h : Over S a b) (k : Over S b c) : Over S a c := ⟨h.1.trans k.1, h.2.trans k.2⟩

theorem Over.write {S : Nat → Prop} {w w1 : World} {B : Nat} {e : TypeId} {E : Enc α} {a : Option Addr} {n c : Nat} {l : List α} (h : Over S w w1) (ho : Own w B e E a n c l) (hS : ∀ b, Blk a b → S b) {j : Nat} (hj : j < n) {vs : List Value} (hv : vs.length = E.sz) :
    ∃ d, a = some d ∧ RoomAt w1 (d.add (j * E.sz)) 0 vs ∧ Over S w (setCells w1 (d.add (j * E.sz)) 0 vs) := by
  rcases ho.out with ⟨-, -, rfl, -⟩ | ⟨g, cur, rfl, hb, hg, hn, h1, h2, h3, h4⟩
  · omega
  · obtain ⟨cs', hg', hs'⟩ := h.2 g cur e hg
    have hle : j * E.sz + E.sz ≤ c * E.sz := by
      rw [← Nat.succ_mul]; exact Nat.mul_le_mul_right _ (by omega)
    refine ⟨_, rfl, ?_⟩
    rw [add_mk, Nat.zero_add]
    obtain ⟨cs2, k1, k2, k3, k4⟩ := setCells_row (vs := vs) (o := j * E.sz) (i := 0) hg'
    refine ⟨roomAt_row hg' (by omega), h.1.trans (k4.mono fun b _ hb => ?_), h.2.trans (Shape.set hg' vs)⟩
    subst hb
    exact hS _ ⟨_, rfl, rfl⟩

/-- a loop that writes a row over -/
theorem fill_loop {S : Nat → Prop} {K : World → Prop} {w w1 : World} {B : Nat} {e : TypeId} {E : Enc α} {a : Option Addr} {n c : Nat} {l : List α} (h : Over S w w1) (ho : Own w B e E a n c l) (hS : ∀ b, Blk a b → S b) {vs : List Value} (hv : vs.length = E.sz) (hk : ∀ w2, Over S w w2 → K w2) :
    ∃ (I : Int → World → Prop) (m : Int → World → Nat), I 0 w1 ∧ ∀ (i : Int) (w2 : World), I i w2 → ((decide (i < ((n : Nat) : Int)) = true → withSome a (fun d => (0 ≤ i ∧ i < (n : Nat)) ∧ RoomAt w2 (Addr.add d (i.toNat * E.sz)) 0 vs ∧
      ∀ w3, w3 = setCells w2 (Addr.add d (i.toNat * E.sz)) 0 vs → ∀ j : Int, j = IntKind.i64.wrap (i + 1) → (I j w3 ∧ m j w3 < m i w2))) ∧ (decide (i < ((n : Nat) : Int)) = false → K w2)) := by
  have hm : n ≤ maxLen := ho.le.2.1
  refine ⟨fun i w2 => ∃ k : Nat, i = k ∧ k ≤ n ∧ Over S w w2, fun i _ => n - i.toNat, ⟨0, rfl, Nat.zero_le _, h⟩, ?_⟩
  rintro i w2 ⟨k, rfl, hkn, h2⟩
  refine ⟨fun hlt => ?_, fun _ => hk _ h2⟩
  simp only [decide_eq_true_eq] at hlt
  have hw : IntKind.i64.wrap ((k : Int) + 1) = ((k + 1 : Nat) : Int) := by rw [IntKind.wrap_i64]; simp only [maxLen] at hm; omega
  obtain ⟨d, rfl, hr, h3⟩ := h2.write ho hS (j := k) (by omega) hv
  refine ⟨⟨by omega, by omega⟩, hr, fun w3 hw3 j hj => ?_⟩
  subst hw3; subst hj
  rw [hw]
  exact ⟨⟨k + 1, rfl, by omega, h3⟩, by show n - (((k + 1 : Nat) : Int)).toNat < n - ((k : Int)).toNat; omega⟩

/-- a loop that writes a row over -/
theorem fill_loop' {S : Nat → Prop} {K : World → Prop} {w w1 : World} {B : Nat} {e : TypeId} {E : Enc α} {a : Option Addr} {n c : Nat} {l : List α} (h : Over S w w1) (ho : Own w B e E a n c l) (hS : ∀ b, Blk a b → S b) {vs : List Value} (hv : vs.length = E.sz) (hk : ∀ w2, Over S w w2 → K w2) :
    ∃ (I : Int → World → Prop) (m : Int → World → Nat), I 0 w1 ∧ ∀ (i : Int) (w2 : World), I i w2 → ((decide (i < ((n : Nat) : Int)) = true → withSome a (fun d => (0 ≤ i ∧ i < (n : Nat)) ∧ RoomAt w2 (Addr.add d (i.toNat * E.sz)) 0 vs ∧
      ∀ w3, w3 = setCells w2 (Addr.add d (i.toNat * E.sz)) 0 vs → (I (IntKind.i64.wrap (i + 1)) w3 ∧ m (IntKind.i64.wrap (i + 1)) w3 < m i w2))) ∧ (decide (i < ((n : Nat) : Int)) = false → K w2)) := by
  have hm : n ≤ maxLen := ho.le.2.1
  refine ⟨fun i w2 => ∃ k : Nat, i = k ∧ k ≤ n ∧ Over S w w2, fun i _ => n - i.toNat, ⟨0, rfl, Nat.zero_le _, h⟩, ?_⟩
  rintro i w2 ⟨k, rfl, hkn, h2⟩
  refine ⟨fun hlt => ?_, fun _ => hk _ h2⟩
  simp only [decide_eq_true_eq] at hlt
  have hw : IntKind.i64.wrap ((k : Int) + 1) = ((k + 1 : Nat) : Int) := by rw [IntKind.wrap_i64]; simp only [maxLen] at hm; omega
  obtain ⟨d, rfl, hr, h3⟩ := h2.write ho hS (j := k) (by omega) hv
  refine ⟨⟨by omega, by omega⟩, hr, fun w3 hw3 => ?_⟩
  subst hw3
  rw [hw]
  exact ⟨⟨k + 1, rfl, by omega, h3⟩, by show n - (((k + 1 : Nat) : Int)).toNat < n - ((k : Int)).toNat; omega⟩

/-- a loop that writes a row over: a row still -/
theorem fill_own {K : World → Prop} {w1 : World} {B : Nat} {e : TypeId} {E : Enc α} {a : Option Addr} {n c : Nat} {l : List α} (ho : Own w1 B e E a n c l) (x : α) (hk : ∀ l' w2, l'.length = l.length → Own w2 B e E a n c l' → Upd (Blk a) w1 w2 → K w2) :
    ∃ (I : Int → World → Prop) (m : Int → World → Nat), I 0 w1 ∧ ∀ (i : Int) (w2 : World), I i w2 → ((decide (i < ((n : Nat) : Int)) = true → withSome a (fun d => (0 ≤ i ∧ i < (n : Nat)) ∧ RoomAt w2 (Addr.add d (i.toNat * E.sz)) 0 (E.f x) ∧
      ∀ w3, w3 = setCells w2 (Addr.add d (i.toNat * E.sz)) 0 (E.f x) → (I (IntKind.i64.wrap (i + 1)) w3 ∧ m (IntKind.i64.wrap (i + 1)) w3 < m i w2))) ∧ (decide (i < ((n : Nat) : Int)) = false → K w2)) := by
  have hm : n ≤ maxLen := ho.le.2.1
  have hn : n = l.length := ho.len
  refine ⟨fun i w2 => ∃ (k : Nat) (l' : List α), i = k ∧ k ≤ n ∧ l'.length = l.length ∧ Own w2 B e E a n c l' ∧ Upd (Blk a) w1 w2, fun i _ => n - i.toNat, ⟨0, l, rfl, Nat.zero_le _, rfl, ho, Upd.refl _ _⟩, ?_⟩
  rintro i w2 ⟨k, l', rfl, hkn, hl', h2, hu⟩
  refine ⟨fun hlt => ?_, fun _ => hk l' _ hl' h2 hu⟩
  simp only [decide_eq_true_eq] at hlt
  have hw : IntKind.i64.wrap ((k : Int) + 1) = ((k + 1 : Nat) : Int) := by rw [IntKind.wrap_i64]; simp only [maxLen] at hm; omega
  obtain ⟨d, hd, hr, h3, hu3⟩ := h2.set (i := k) (by omega) x
  rw [hd]
  refine ⟨⟨by omega, by omega⟩, hr, fun w3 hw3 => ?_⟩
  subst hw3
  rw [hw]
  exact ⟨⟨k + 1, l'.set k x, rfl, by omega, by simpa using hl', by rw [← hd]; exact h3, by rw [← hd]; exact hu.trans hu3⟩, by show n - (((k + 1 : Nat) : Int)).toNat < n - ((k : Int)).toNat; omega⟩
theorem fill_own_n {K : World → Prop} {w1 : World} {B : Nat} {e : TypeId} {E : Enc α} {a : Option Addr} {n c : Nat} {l : List α} (ho : Own w1 B e E a n c l) (x : α) (hk : ∀ l' w2, l'.length = l.length → Own w2 B e E a n c l' → Upd (Blk a) w1 w2 → K w2) :
    ∃ (I : Int → World → Prop) (m : Int → World → Nat), I 0 w1 ∧ ∀ (i : Int) (w2 : World), I i w2 → ((decide (i < ((n : Nat) : Int)) = true → withSome a (fun d => (0 ≤ i ∧ i < (n : Nat)) ∧ RoomAt w2 (Addr.add d (i.toNat * E.sz)) 0 (E.f x) ∧
      ∀ w3, w3 = setCells w2 (Addr.add d (i.toNat * E.sz)) 0 (E.f x) → ∀ j : Int, j = IntKind.i64.wrap (i + 1) → (I j w3 ∧ m j w3 < m i w2))) ∧ (decide (i < ((n : Nat) : Int)) = false → K w2)) := by
  obtain ⟨I, m, h0, h⟩ := fill_own ho x hk
  refine ⟨I, m, h0, fun i w2 hi => ⟨fun hlt => ?_, (h i w2 hi).2⟩⟩
  have := (h i w2 hi).1 hlt
  cases a with
  | none => exact this
  | some d =>
    refine ⟨this.1, this.2.1, fun w3 hw3 j hj => ?_⟩
    subst hj
    exact this.2.2 w3 hw3

/-- a loop that writes a row over that is read anew each time -/
theorem fill_at {S : Nat → Prop} {K : World → Prop} {w w1 : World} {B : Nat} {e : TypeId} {E : Enc α} {a : Option Addr} {n c : Nat} {l : List α} (h : Over S w w1) (ho : Own w B e E a n c l) (hS : ∀ b, Blk a b → S b) {vs : List Value} (hv : vs.length = E.sz)
    {ar : Option Addr} {dr : Addr} (har : ar = some dr) (A : Addr → Addr) {i0 : Int} {n0 : Nat} (hb0 : 0 ≤ i0 ∧ i0 < (n0 : Nat)) (hA : ∀ w2, Over S w w2 → w2.cell? (A dr) = some (.slice a n c)) (hk : ∀ w2, Over S w w2 → K w2) :
    ∃ (I : Int → World → Prop) (m : Int → World → Nat), I 0 w1 ∧ ∀ (i : Int) (w2 : World), I i w2 → withSome ar (fun d1 => (0 ≤ i0 ∧ i0 < (n0 : Nat)) ∧ ∃ (a1 : Option Addr) (n1 c1 : Nat), w2.cell? (A d1) = some (.slice a1 n1 c1) ∧
      ((decide (i < ((n1 : Nat) : Int)) = true → withSome ar (fun d2 => (0 ≤ i0 ∧ i0 < (n0 : Nat)) ∧ ∃ (a2 : Option Addr) (n2 c2 : Nat), w2.cell? (A d2) = some (.slice a2 n2 c2) ∧ withSome a2 (fun d => (0 ≤ i ∧ i < (n2 : Nat)) ∧ RoomAt w2 (Addr.add d (i.toNat * E.sz)) 0 vs ∧
      ∀ w3, w3 = setCells w2 (Addr.add d (i.toNat * E.sz)) 0 vs → ∀ j : Int, j = IntKind.i64.wrap (i + 1) → (I j w3 ∧ m j w3 < m i w2)))) ∧ (decide (i < ((n1 : Nat) : Int)) = false → K w2))) := by
  subst har
  have hm : n ≤ maxLen := ho.le.2.1
  refine ⟨fun i w2 => ∃ k : Nat, i = k ∧ k ≤ n ∧ Over S w w2, fun i _ => n - i.toNat, ⟨0, rfl, Nat.zero_le _, h⟩, ?_⟩
  rintro i w2 ⟨k, rfl, hkn, h2⟩
  refine ⟨hb0, _, _, _, hA _ h2, fun hlt => ⟨hb0, _, _, _, hA _ h2, ?_⟩, fun _ => hk _ h2⟩
  simp only [decide_eq_true_eq] at hlt
  have hw : IntKind.i64.wrap ((k : Int) + 1) = ((k + 1 : Nat) : Int) := by rw [IntKind.wrap_i64]; simp only [maxLen] at hm; omega
  obtain ⟨d, rfl, hr, h3⟩ := h2.write ho hS (j := k) (by omega) hv
  refine ⟨⟨by omega, by omega⟩, hr, fun w3 hw3 j hj => ?_⟩
  subst hw3; subst hj
  rw [hw]
  exact ⟨⟨k + 1, rfl, by omega, h3⟩, by show n - (((k + 1 : Nat) : Int)).toNat < n - ((k : Int)).toNat; omega⟩

/-- a copy with room for one more, cut back -/
theorem two_appends {t e : TypeId} {bytes : Nat} {E : Enc α} {w0 w : World} {a : Option Addr} {n c : Nat} {l : List α} {x : α} {cs : Array Value} (he : ElemOk P t e E.sz bytes) (hr : Reads w0 E (a, n, c) l) (hx : cs.toList = E.f x) (h63 : l.length + 1 ≤ maxLen) (hby : (l.length + 1) * bytes ≤ 140737488355328)
    {K : Option Addr → Nat → Nat → World → Prop} (hK : ∀ a' c' w', Own w' w0.heap.size e E a' l.length c' l → Grew w0 w' → K a' l.length c' w') :
    ∀ w1, Grew w0 w1 → ((∀ (b1 : Nat) (w2 : World), Alloc w1 w2 b1 (.cells #[] e) → SameB w1 w2 [] ∧ ((SemW P (Builtin.append_ #[t, t] t #[.slice (some ⟨b1, 0, none⟩) 0 0, .slice a n c]) (fun u w3 => ∃ (a3 : Option Addr) (n3 c3 : Nat), u = .slice a3 n3 c3 ∧ SameB w2 w3 [] ∧
        ∀ (b4 : Nat) (w4 : World), Alloc w3 w4 b4 (.cells cs e) → SameB w3 w4 [] ∧ SemW P (Builtin.append_ #[t, t] t #[.slice a3 n3 c3, .slice (some ⟨b4, 0, none⟩) 1 1]) (fun u w5 => ∃ (a5 : Option Addr) (n5 c5 : Nat), u = .slice a5 n5 c5 ∧ SameB w4 w5 [] ∧ (0 ≤ ((n : Nat) : Int) ∧ ((n : Nat) : Int) ≤ (c5 : Nat)) ∧ K a5 (((n : Nat) : Int).toNat) c5 w5) w4) w2) ∧
      (∀ (b4 : Nat) (w4 : World), Alloc w2 w4 b4 (.cells cs e) → SameB w2 w4 [] ∧ SemW P (Builtin.append_ #[t, t] t #[.slice (some ⟨b1, 0, none⟩) 0 0, .slice a n c]) (fun u w3 => ∃ (a3 : Option Addr) (n3 c3 : Nat), u = .slice a3 n3 c3 ∧ SameB w4 w3 [] ∧
        SemW P (Builtin.append_ #[t, t] t #[.slice a3 n3 c3, .slice (some ⟨b4, 0, none⟩) 1 1]) (fun u w5 => ∃ (a5 : Option Addr) (n5 c5 : Nat), u = .slice a5 n5 c5 ∧ SameB w3 w5 [] ∧ (0 ≤ ((n : Nat) : Int) ∧ ((n : Nat) : Int) ≤ (c5 : Nat)) ∧ K a5 (((n : Nat) : Int).toNat) c5 w5) w3) w4))) ∧
      (∀ (b4 : Nat) (w4 : World), Alloc w1 w4 b4 (.cells cs e) → SameB w1 w4 [] ∧ ∀ (b1 : Nat) (w2 : World), Alloc w4 w2 b1 (.cells #[] e) → SameB w4 w2 [] ∧ SemW P (Builtin.append_ #[t, t] t #[.slice (some ⟨b1, 0, none⟩) 0 0, .slice a n c]) (fun u w3 => ∃ (a3 : Option Addr) (n3 c3 : Nat), u = .slice a3 n3 c3 ∧ SameB w2 w3 [] ∧
        SemW P (Builtin.append_ #[t, t] t #[.slice a3 n3 c3, .slice (some ⟨b4, 0, none⟩) 1 1]) (fun u w5 => ∃ (a5 : Option Addr) (n5 c5 : Nat), u = .slice a5 n5 c5 ∧ SameB w3 w5 [] ∧ (0 ≤ ((n : Nat) : Int) ∧ ((n : Nat) : Int) ≤ (c5 : Nat)) ∧ K a5 (((n : Nat) : Int).toNat) c5 w5) w3) w2)) := by
  intro w1 hg1
  have hn : n = l.length := hr.2.1
  subst hn
  have sb : ∀ {x y : World}, SameB x y [] := by intro x y; simp [SameB]
  have fin : ∀ {v : Value} {w5 : World} {a3 : Option Addr} {w3 : World}, Onto w3 w0.heap.size e E a3 (l ++ [x]) v w5 → Grew w0 w3 → (∀ b, Blk a3 b → w0.heap.size ≤ b) → ∀ {w4 : World}, ∃ (a5 : Option Addr) (n5 c5 : Nat), v = .slice a5 n5 c5 ∧ SameB w4 w5 [] ∧ (0 ≤ ((l.length : Nat) : Int) ∧ ((l.length : Nat) : Int) ≤ (c5 : Nat)) ∧ K a5 (((l.length : Nat) : Int).toNat) c5 w5 := by
    intro v w5 a3 w3 hO hg hb w4
    obtain ⟨a5, n5, c5, rfl, ho5, hu5, hb5⟩ := hO
    have hl5 : n5 = l.length + 1 := by rw [ho5.len]; simp
    have hc5 := ho5.le.1
    have ht := ho5.take (k := l.length) (by omega)
    rw [List.take_left' rfl] at ht
    refine ⟨a5, n5, c5, rfl, sb, ⟨by omega, by omega⟩, ?_⟩
    exact hK _ _ _ ht (hg.then_own hu5 hb)
  refine ⟨fun b1 w2 hal => ⟨sb, ?_, fun b4 w4 hal4 => ⟨sb, ?_⟩⟩, fun b4 w4 hal4 => ⟨sb, fun b1 w2 hal => ⟨sb, ?_⟩⟩⟩
  · have hg2 := hg1.trans hal.grew
    have ho := Own.alloc (E := E) (l := ([] : List α)) hal hg1.size rfl (by simp)
    have hr2 := hr.grew hg2
    refine append_sl he ho hr2.1 rfl hr2.2.2.1 hg2.size (by simp; omega) (by simp; exact Nat.le_trans (Nat.mul_le_mul_right _ (by omega)) hby) ?_
    rintro v w3 ⟨a3, n3, c3, rfl, ho3, hu3, hb3⟩
    refine ⟨a3, n3, c3, rfl, sb, fun b4 w4 hal4 => ⟨sb, ?_⟩⟩
    have hg3 : Grew w0 w3 := hg2.then_own hu3 fun b hb => (ho.blk hb).1
    refine append_new (l2 := [x]) he ho3 hal4 (by simp [hx]) rfl hg3.size (by simpa using h63) (by simpa using hby) ?_
    intro v w5 hO
    exact fin hO hg3 fun b hb => (ho3.blk hb).1
  · have hg2 := hg1.trans hal.grew
    have hg4 := hg2.trans hal4.grew
    have ho := (Own.alloc (E := E) (l := ([] : List α)) hal hg1.size rfl (by simp)).grew hal4.grew
    have hx4 := Own.alloc (E := E) (l := [x]) hal4 (Nat.le_refl _) (by simp [hx]) (by simp [maxLen])
    have hr4 := hr.grew hg4
    have hne : b1 < b4 := Nat.lt_of_lt_of_le hal.lt hal4.new
    refine append_sl he ho hr4.1 rfl hr4.2.2.1 hg4.size (by simp; omega) (by simp; exact Nat.le_trans (Nat.mul_le_mul_right _ (by omega)) hby) ?_
    rintro v w3 ⟨a3, n3, c3, rfl, ho3, hu3, hb3⟩
    refine ⟨a3, n3, c3, rfl, sb, ?_⟩
    have hg3 : Grew w0 w3 := hg4.then_own hu3 fun b hb => (ho.blk hb).1
    have hx3 := hx4.upd hu3 fun b hb hb' => by rw [Blk.some] at hb hb'; simp at hb hb'; omega
    refine append_sl he ho3 hx3.sl (by simp) (fun h => by cases h) hg3.size (by simpa using h63) (by simpa using hby) ?_
    intro v w5 hO
    exact fin hO hg3 fun b hb => (ho3.blk hb).1
  · have hg4 := hg1.trans hal4.grew
    have hg2 := hg4.trans hal.grew
    have ho := Own.alloc (E := E) (l := ([] : List α)) hal hg4.size rfl (by simp)
    have hx4 := (Own.alloc (E := E) (l := [x]) hal4 (Nat.le_refl _) (by simp [hx]) (by simp [maxLen])).grew hal.grew
    have hr2 := hr.grew hg2
    have hne : b4 < b1 := Nat.lt_of_lt_of_le hal4.lt hal.new
    refine append_sl he ho hr2.1 rfl hr2.2.2.1 hg2.size (by simp; omega) (by simp; exact Nat.le_trans (Nat.mul_le_mul_right _ (by omega)) hby) ?_
    rintro v w3 ⟨a3, n3, c3, rfl, ho3, hu3, hb3⟩
    refine ⟨a3, n3, c3, rfl, sb, ?_⟩
    have hg3 : Grew w0 w3 := hg2.then_own hu3 fun b hb => (ho.blk hb).1
    have hx3 := hx4.upd hu3 fun b hb hb' => by rw [Blk.some] at hb hb'; simp at hb hb'; omega
    refine append_sl he ho3 hx3.sl (by simp) (fun h => by cases h) hg3.size (by simpa using h63) (by simpa using hby) ?_
    intro v w5 hO
    exact fin hO hg3 fun b hb => (ho3.blk hb).1
end
end Go.Sx
