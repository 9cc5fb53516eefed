/- Contracts' words: what a call hands back, slices that can be read, rows that a call owns, append. Conditions: none. -/
import Derived.Test.YtbmmaibbiahkkaaGreatDoorSxJ
import Derived.Laws.OwnMore
namespace Go.Sx
set_option linter.unusedSimpArgs false
set_option linter.unusedVariables false
theorem Addr.add_zero' (a : Addr) : a.add 0 = a := by simp [Addr.add]
theorem Addr.add_add' (a : Addr) (m n : Nat) : (a.add m).add n = a.add (m + n) := by
 unfold Addr.add
 by_cases h1 : m = 0 <;> by_cases h2 : n = 0 <;> simp [h1, h2, Nat.add_assoc]
def Rets (Post : Value → World → Prop) (e : Ending) (w : World) : Prop := ∃ v, e = .returned v ∧ Post v w
section
variable {P : Program}
theorem Aa.use {f : FuncId} {args : List Value} {w : World} {Post k : Value → World → Prop} {R : Ending → World → Prop} (h : Aa P f args w (Rets Post)) (hk : ∀ v w', Post v w' → k v w') : Aa P f args w (RetR R k) :=
 h.mono fun e w' ⟨v, he, hp⟩ => by subst he; exact hk v w' hp
theorem Grew.cell {w w' : World} (h : Grew w w') {a : Addr} {v : Value} (hc : w.cell? a = some v) : w'.cell? a = some v := by
 have hlt : a.block < w.heap.size := World.block_lt_of_cell? w a hc
 rw [← hc]; simp only [World.cell?, h.block a.block hlt]
theorem Grew.heap {w w' : World} (h : Grew w w') {b : Nat} {o : Obj} (ho : w.heap[b]? = some o) : w'.heap[b]? = some o := by
 rw [h.block b (lt_of_heap ho)]; exact ho
theorem Ar.lt {w w' : World} {b : Nat} {o : Obj} (h : Ar w w' b o) : b < w'.heap.size := lt_of_heap h.at_
theorem Ah.grew {w w' : World} (h : Grew w w') {a : Addr} : ∀ {vs : List Value} {i : Nat}, Ah w a i vs → Ah w' a i vs
 | [], _, _ => trivial
 | _ :: _, _, hc => ⟨h.cell hc.1, hc.2.grew h⟩
theorem D9 {w : World} {a : Addr} : ∀ {vs : List Value} {i : Nat}, (∀ j v, vs[j]? = some v → w.cell? (a.add (i + j)) = some v) → Ah w a i vs
 | [], _, _ => trivial
 | v :: r, i, h => ⟨by simpa using h 0 v (by simp), D9 fun j u hj => by rw [show i + 1 + j = i + (j + 1) from by omega]; exact h (j + 1) u (by simpa using hj)⟩
structure Upd (S : Nat → Prop) (w w' : World) : Prop where
 os : w'.os = w.os
 tape : w'.tape = w.tape
 output : w'.output = w.output
 size : w.heap.size ≤ w'.heap.size
 block : ∀ k : Nat, k < w.heap.size → ¬ S k → w'.heap[k]? = w.heap[k]?
def Blk (a : Option Addr) (b : Nat) : Prop := ∃ d, a = some d ∧ d.block = b
theorem Blk.none {b : Nat} : ¬ Blk none b := fun ⟨_, h, _⟩ => by cases h
theorem Upd.grew {S : Nat → Prop} {w0 w w' : World} (hu : Upd S w w') (h : Grew w0 w) (hb : ∀ b, S b → w0.heap.size ≤ b) : Grew w0 w' :=
 ⟨hu.os.trans h.os, hu.tape.trans h.tape, hu.output.trans h.output, Nat.le_trans h.size hu.size, fun k hk => (hu.block k (Nat.lt_of_lt_of_le hk h.size) (fun hs => by have := hb k hs; omega)).trans (h.block k hk)⟩
theorem Grew.upd {S : Nat → Prop} {w w' : World} (h : Grew w w') : Upd S w w' := ⟨h.os, h.tape, h.output, h.size, fun k hk _ => h.block k hk⟩
theorem Upd.refl (S : Nat → Prop) (w : World) : Upd S w w := (Grew.refl w).upd
theorem Upd.trans {S : Nat → Prop} {a b c : World} (h : Upd S a b) (h' : Upd S b c) : Upd S a c :=
 ⟨h'.os.trans h.os, h'.tape.trans h.tape, h'.output.trans h.output, Nat.le_trans h.size h'.size, fun i hi hn => (h'.block i (Nat.lt_of_lt_of_le hi h.size) hn).trans (h.block i hi hn)⟩
theorem Upd.mono {S S' : Nat → Prop} {w w' : World} (h : Upd S w w') (hs : ∀ b, b < w.heap.size → S b → S' b) : Upd S' w w' := ⟨h.os, h.tape, h.output, h.size, fun k hk hn => h.block k hk fun h' => hn (hs k hk h')⟩
theorem Upd.heap {S : Nat → Prop} {w w' : World} {k : Nat} (h : Upd S w w') (hn : ¬ S k) {o : Obj} (ho : w.heap[k]? = some o) : w'.heap[k]? = some o := by
 rw [h.block k (lt_of_heap ho) hn]; exact ho
theorem Upd.cell {S : Nat → Prop} {w w' : World} (h : Upd S w w') {a : Addr} {v : Value} (hn : ¬ S a.block) (hc : w.cell? a = some v) : w'.cell? a = some v := by
 have hlt : a.block < w.heap.size := World.block_lt_of_cell? w a hc
 rw [← hc]; simp only [World.cell?, h.block a.block hlt hn]
structure Enc (α : Type) where
 sz : Nat
 f : α → List Value
 len : ∀ x, (f x).length = sz
 pos : 0 < sz
 one : ∀ x, ∀ v ∈ f x, v.oneCell' = true
def Enc.int (k : IntKind) : Enc Int := ⟨1, fun n => [.int k n], fun _ => rfl, by decide, fun _ v h => by simp at h; subst h; rfl⟩
variable {α : Type}
theorem Bc (E : Enc α) (l : List α) : (l.flatMap E.f).length = l.length * E.sz := by
 induction l with
 | nil => simp
 | cons x r ih => simp [List.flatMap_cons, ih, E.len, Nat.add_mul, Nat.add_comm]
theorem flat_get (E : Enc α) : ∀ (l : List α) (i j : Nat) (x : α), l[i]? = some x → j < E.sz → (l.flatMap E.f)[i * E.sz + j]? = (E.f x)[j]?
 | [], _, _, _, h, _ => by simp at h
 | y :: r, 0, j, x, h, hj => by
  simp at h; subst h
  simp only [List.flatMap_cons, Nat.zero_mul, Nat.zero_add]
  rw [List.getElem?_append_left (by rw [E.len]; exact hj)]
 | y :: r, i + 1, j, x, h, hj => by
  simp only [List.flatMap_cons]
  rw [List.getElem?_append_right (by rw [E.len, Nat.add_mul]; omega), E.len]
  rw [show (i + 1) * E.sz + j - E.sz = i * E.sz + j from by rw [Nat.add_mul]; omega]
  exact flat_get E r i j x (by simpa using h) hj
theorem H7 (E : Enc α) (l : List α) : ∀ v ∈ l.flatMap E.f, v.oneCell' = true := by
 intro v hv
 obtain ⟨x, _, hx⟩ := List.mem_flatMap.1 hv
 exact E.one x v hx
def Sl (w : World) (a : Option Addr) (E : Enc α) (l : List α) : Prop := ∀ i x, l[i]? = some x → ∃ d, a = some d ∧ Ah w (d.add (i * E.sz)) 0 (E.f x)
theorem Sl.nil (w : World) (a : Option Addr) (E : Enc α) : Sl w a E [] := fun i x h => by simp at h
theorem Sl.grew {w w' : World} {a : Option Addr} {E : Enc α} {l : List α} (h : Sl w a E l) (hg : Grew w w') : Sl w' a E l :=
 fun i x hx => let ⟨d, hd, hc⟩ := h i x hx; ⟨d, hd, hc.grew hg⟩
theorem Sl.at_ {w : World} {a : Option Addr} {E : Enc α} {l : List α} (h : Sl w a E l) {n : Int} (h0 : 0 ≤ n) (h1 : n < l.length) : ∃ d x, a = some d ∧ l[n.toNat]? = some x ∧ Ah w (d.add (n.toNat * E.sz)) 0 (E.f x) := by
 have hlt : n.toNat < l.length := by omega
 obtain ⟨d, hd, hc⟩ := h n.toNat l[n.toNat] (by simp [hlt])
 exact ⟨d, _, hd, by simp [hlt], hc⟩
theorem Sl.drop {w : World} {a : Option Addr} {E : Enc α} {l : List α} (h : Sl w a E l) (k c : Nat) (hk : k ≤ l.length) (hc : l.length ≤ c) : Sl w (if c = k then a else a.map (·.add (k * E.sz))) E (l.drop k) := by
 intro i x hx
 rw [List.getElem?_drop] at hx
 have hlt : k + i < l.length := by
  rcases Nat.lt_or_ge (k + i) l.length with h' | h'
  ·exact h'
  ·rw [List.getElem?_eq_none h'] at hx; cases hx
 obtain ⟨d, hd, hcc⟩ := h (k + i) x hx
 rw [if_neg (by omega)]
 refine ⟨d.add (k * E.sz), by rw [hd]; rfl, ?_⟩
 rw [Addr.add_add', ← Nat.add_mul]; exact hcc
theorem Sl.take {w : World} {a : Option Addr} {E : Enc α} {l : List α} (h : Sl w a E l) (k : Nat) : Sl w a E (l.take k) := by
 intro i x hx
 rw [List.getElem?_take] at hx
 split at hx
 ·exact h i x hx
 ·cases hx
def Own (w : World) (B : Nat) (e : TypeId) (E : Enc α) (a : Option Addr) (n c : Nat) (l : List α) : Prop := n = l.length ∧ w.ownsRow B e E.sz (.slice a n c) n (l.flatMap E.f)
theorem Own.nil (w : World) (B : Nat) (e : TypeId) (E : Enc α) : Own w B e E none 0 0 ([] : List α) := ⟨rfl, World.ownsRow_nil w B e E.sz⟩
theorem Own.out {w : World} {B : Nat} {e : TypeId} {E : Enc α} {a : Option Addr} {n c : Nat} {l : List α} (h : Own w B e E a n c l) :
  (a = none ∧ l = [] ∧ n = 0 ∧ c = 0) ∨ ∃ g cur, a = some ⟨g, 0, none⟩ ∧ B ≤ g ∧ w.heap[g]? = some (.cells cur e (0, 0)) ∧ n = l.length ∧ n ≤ c ∧ c ≤ maxLen ∧ cur.size = c * E.sz ∧ cur.toList.take (n * E.sz) = l.flatMap E.f := by
 obtain ⟨hn, hl, h⟩ := h
 rcases h with ⟨hv, h0⟩ | ⟨g, cap, cur, hv, hb, hg, h1, h2, h3, h4⟩
 ·cases hv
  exact .inl ⟨rfl, List.eq_nil_of_length_eq_zero (by omega), rfl, rfl⟩
 ·simp only [Value.slice.injEq, true_and] at hv
  obtain ⟨rfl, rfl⟩ := hv
  exact .inr ⟨g, cur, rfl, hb, hg, hn, h1, h2, h3, h4⟩
theorem Own.mk' {w : World} {B : Nat} {e : TypeId} {E : Enc α} {n c g : Nat} {cur : Array Value} {l : List α} (hn : n = l.length) (hb : B ≤ g) (hg : w.heap[g]? = some (.cells cur e (0, 0))) (h1 : n ≤ c) (h2 : c ≤ maxLen) (h3 : cur.size = c * E.sz) (h4 : cur.toList.take (n * E.sz) = l.flatMap E.f) :
  Own w B e E (some ⟨g, 0, none⟩) n c l := ⟨hn, by rw [Bc, hn], .inr ⟨g, c, cur, rfl, hb, hg, h1, h2, h3, h4⟩⟩
theorem Own.sl {w : World} {B : Nat} {e : TypeId} {E : Enc α} {a : Option Addr} {n c : Nat} {l : List α} (h : Own w B e E a n c l) : Sl w a E l := by
 intro i x hx
 rcases h.out with ⟨-, rfl, -, -⟩ | ⟨g, cur, rfl, hb, hg, hn, h1, h2, h3, h4⟩
 ·simp at hx
 ·refine ⟨_, rfl, D9 fun j v hj => ?_⟩
  have hjl : j < E.sz := by
   rw [← E.len x]
   rcases Nat.lt_or_ge j (E.f x).length with h' | h'
   ·exact h'
   ·rw [List.getElem?_eq_none h'] at hj; cases hj
  have hil : i < l.length := by
   rcases Nat.lt_or_ge i l.length with h' | h'
   ·exact h'
   ·rw [List.getElem?_eq_none h'] at hx; cases hx
  have hfl := flat_get E l i j x hx hjl
  rw [hj, ← h4, List.getElem?_take] at hfl
  split at hfl
  ·rw [Addr.add_add', Bj]
   simp only [World.cell?, hg]
   simpa using hfl
  ·cases hfl
theorem Own.grew {w w' : World} {B : Nat} {e : TypeId} {E : Enc α} {a : Option Addr} {n c : Nat} {l : List α} (h : Own w B e E a n c l) (hg : Grew w w') : Own w' B e E a n c l := by
 rcases h.out with ⟨rfl, rfl, rfl, rfl⟩ | ⟨g, cur, rfl, hb, hgg, hn, h1, h2, h3, h4⟩
 ·exact Own.nil _ _ _ _
 ·exact Own.mk' hn hb (hg.heap hgg) h1 h2 h3 h4
theorem Own.base {w : World} {B B' : Nat} {e : TypeId} {E : Enc α} {a : Option Addr} {n c : Nat} {l : List α} (h : Own w B e E a n c l) (hB : B' ≤ B) : Own w B' e E a n c l := by
 rcases h.out with ⟨rfl, rfl, rfl, rfl⟩ | ⟨g, cur, rfl, hb, hgg, hn, h1, h2, h3, h4⟩
 ·exact Own.nil _ _ _ _
 ·exact Own.mk' hn (Nat.le_trans hB hb) hgg h1 h2 h3 h4
theorem Own.upd {S : Nat → Prop} {w w' : World} {B : Nat} {e : TypeId} {E : Enc α} {a : Option Addr} {n c : Nat} {l : List α} (h : Own w B e E a n c l) (hu : Upd S w w') (hn : ∀ b, Blk a b → ¬ S b) : Own w' B e E a n c l := by
 rcases h.out with ⟨rfl, rfl, rfl, rfl⟩ | ⟨g, cur, rfl, hb, hgg, hnn, h1, h2, h3, h4⟩
 ·exact Own.nil _ _ _ _
 ·exact Own.mk' hnn hb (hu.heap (hn _ ⟨_, rfl, rfl⟩) hgg) h1 h2 h3 h4
theorem Own.alloc {w w' : World} {B b : Nat} {e : TypeId} {E : Enc α} {cs : Array Value} {l : List α} (ha : Ar w w' b (.cells cs e)) (hB : B ≤ w.heap.size) (hcs : cs.toList = l.flatMap E.f) (hm : l.length ≤ maxLen) : Own w' B e E (some ⟨b, 0, none⟩) l.length l.length l := by
 have hl : cs.size = l.length * E.sz := by rw [← Array.length_toList, hcs, Bc]
 exact Own.mk' rfl (Nat.le_trans hB ha.new) ha.at_ (Nat.le_refl _) hm hl (by rw [hcs, ← Bc, List.take_length])
open Classical in
noncomputable def A6 (w w₀' : World) : World := { w₀' with heap := w₀'.heap.mapIdx fun i o => if w.heap[i]? = some hole then hole else o }
theorem A0 {w w₀' : World} {b : Nat} (h : w.heap[b]? ≠ some hole) : (A6 w w₀').heap[b]? = w₀'.heap[b]? := by
 simp only [A6, Array.getElem?_mapIdx, h, if_false]
 cases w₀'.heap[b]? <;> rfl
theorem Bi {w w₀' : World} {b : Nat} (h : w.heap[b]? = some hole) (hs : w.heap.size ≤ w₀'.heap.size) : (A6 w w₀').heap[b]? = some hole := by
 have hlt : b < w₀'.heap.size := Nat.lt_of_lt_of_le (lt_of_heap h) hs
 simp only [A6, Array.getElem?_mapIdx, h, if_true]
 rw [Array.getElem?_eq_getElem hlt]; rfl
theorem Cv {w w₀' : World} (hs : w.heap.size ≤ w₀'.heap.size) : Ae (A6 w w₀') w₀' := by
 refine ⟨rfl, rfl, rfl, rfl, by simp [A6], fun b => ?_⟩
 by_cases h : w.heap[b]? = some hole
 ·exact .inr (Bi h hs)
 ·exact .inl (A0 h)
theorem Dd {w w₀ w₀' : World} (hs : w.heap.size ≤ w₀'.heap.size) (hk : ∀ b : Nat, w.heap[b]? = some hole → w₀'.heap[b]? = w₀.heap[b]?) : Kept w w₀ (A6 w w₀') w₀' :=
 ⟨fun b hb => Bi hb hs, hk, by simp [A6]; exact hs⟩
theorem SemW.of_run {β : Type} {s : Sem β} {k : β → World → Prop} {w : World} (row : Option Nat) (hrow : ∀ b, row = some b → w.heap[b]? ≠ some hole)
  (h : ∀ w₀, Ae w w₀ → ∃ a w₀', s.run P w₀ = .ok a w₀' ∧ w₀.grownBy w₀' row ∧ (w.grownBy (A6 w w₀') row → k a (A6 w w₀'))) : SemW P s k w := by
 intro w₀ hw
 obtain ⟨a, w₀', hrun, hg, hk⟩ := h w₀ hw
 have hs : w.heap.size ≤ w₀'.heap.size := by rw [hw.size]; exact hg.size
 have hkeep : ∀ b : Nat, w.heap[b]? = some hole → w₀'.heap[b]? = w₀.heap[b]? := fun b hb =>
  hg.block b (by rw [← hw.size]; exact lt_of_heap hb) fun e => hrow b e.symm hb
 refine ⟨a, w₀', A6 w w₀', hrun, Cv hs, Dd hs hkeep, hk ⟨?_, ?_, ?_, by simp [A6]; exact hs, fun b hb hne => ?_⟩⟩
 ·show w₀'.os = w.os; rw [hg.os, hw.os]
 ·show w₀'.tape = w.tape; rw [hg.tape, hw.tape]
 ·show w₀'.output = w.output; rw [hg.output, hw.output]
 ·by_cases hh : w.heap[b]? = some hole
  ·rw [Bi hh hs, hh]
  ·rw [A0 hh, hg.block b (by rw [← hw.size]; exact hb) hne]
   rcases hw.block b with e | e
   ·exact e.symm
   ·exact absurd e hh
def C4 (P : Program) (t e : TypeId) (sz bytes : Nat) : Prop := ∃ i z, P.underlying t = some (.slice e) ∧ P.info? e = some i ∧ i.zero = some z ∧ i.size = sz ∧ i.bytes = bytes ∧ z.cells.size = sz
theorem C4.mk' {t e : TypeId} {sz bytes : Nat} (h1 : P.underlying t = some (.slice e)) {z : Value} (h2 : (P.info? e).map (fun i => (i.zero, i.size, i.bytes)) = some (some z, sz, bytes)) (h3 : z.cells.size = sz) : C4 P t e sz bytes := by
 cases hi : P.info? e with
 | none => rw [hi] at h2; cases h2
 | some i =>
  rw [hi] at h2
  simp only [Option.map_some, Option.some.injEq, Prod.mk.injEq] at h2
  exact ⟨i, z, h1, hi, h2.1, h2.2.1, h2.2.2, h3⟩
theorem Bd {w w₀ : World} (h : Ae w w₀) {B : Nat} {e : TypeId} {size : Nat} {v : Value} {n : Nat} {xs : List Value} (ho : w.ownsRow B e size v n xs) : w₀.ownsRow B e size v n xs := by
 refine ⟨ho.1, ho.2.imp id fun ⟨g, cap, cur, h1, h2, h3, h4⟩ => ⟨g, cap, cur, h1, h2, h.at h3 (by simp [hole]), h4⟩⟩
theorem H8 {t ty e : TypeId} {B bytes : Nat} {E : Enc α} {w : World} {a a2 : Option Addr} {n c m c2 : Nat} {l l2 : List α} {k : Value → World → Prop}
  (he : C4 P t e E.sz bytes) (ho : Own w B e E a n c l) (hs : Sl w a2 E l2) (hm : m = l2.length) (hc2 : a2 = none → c2 = 0) (hB : B ≤ w.heap.size)
  (h63 : l.length + l2.length ≤ maxLen) (hby : (l.length + l2.length) * bytes ≤ 140737488355328)
  (hk : ∀ a' c' w', Own w' B e E a' (l.length + l2.length) c' (l ++ l2) → Upd (Blk a) w w' → (∀ b, Blk a' b → Blk a b ∨ w.heap.size ≤ b) → k (.slice a' (l.length + l2.length) c') w') :
  SemW P (Builtin.append_ #[t, t] ty #[.slice a n c, .slice a2 m c2]) k w := by
 obtain ⟨i, z, hu, hi, hz, hsz, hb, hzs⟩ := he
 have hn := ho.1
 subst hm
 have hvis : ∀ b, Value.ownBlock (.slice a n c) = some b → B ≤ b ∧ b < w.heap.size ∧ w.heap[b]? ≠ some hole := by
  intro b hb
  rcases ho.out with ⟨rfl, -, -, -⟩ | ⟨g, cur, rfl, hbg, hgg, -⟩
  ·cases hb
  ·simp only [Value.ownBlock, Option.some.injEq] at hb; subst hb
   exact ⟨hbg, lt_of_heap hgg, by rw [hgg]; simp [hole]⟩
 refine SemW.of_run (Value.ownBlock (.slice a n c)) (fun b hb => (hvis b hb).2.2) fun w₀ hw => ?_
 have hrun : ∃ v' w', (Builtin.append_ #[t, t] ty #[.slice a n c, .slice a2 l2.length c2]).run P w₀ = .ok v' w' ∧ w'.ownsRow B e E.sz v' (n + l2.length) (l.flatMap E.f ++ l2.flatMap E.f) ∧ w₀.grownBy w' (Value.ownBlock (.slice a n c)) ∧ ∀ (g c' : Nat), v' = .slice (some ⟨g, 0, none⟩) (n + l2.length) c' → w.heap.size ≤ g ∨ ∃ d, a = some d ∧ d.block = g := by
  cases a2 with
  | some d2 =>
   have hnews : ∀ (j : Nat) (u : Value), (l2.flatMap E.f)[j]? = some u → w₀.cell? (d2.add j) = some u := fun j u hj => by
     have hjl : j < l2.length * E.sz := by
      rw [← Bc]
      rcases Nat.lt_or_ge j (l2.flatMap E.f).length with h' | h'
      ·exact h'
      ·rw [List.getElem?_eq_none h'] at hj; cases hj
     have hdiv : j / E.sz < l2.length := (Nat.div_lt_iff_lt_mul E.pos).2 hjl
     have hmod := Nat.mod_lt j E.pos
     obtain ⟨d, hd, hc⟩ := hs (j / E.sz) l2[j / E.sz] (by simp [hdiv])
     cases hd
     have hj' := flat_get E l2 (j / E.sz) (j % E.sz) l2[j / E.sz] (by simp [hdiv]) hmod
     have hjj : j / E.sz * E.sz + j % E.sz = j := by rw [Nat.mul_comm]; exact Nat.div_add_mod j E.sz
     rw [hjj, hj] at hj'
     have := Ci hc (j % E.sz) u hj'.symm
     rw [Nat.zero_add, Addr.add_add', hjj] at this
     exact (hw.cell this).1
   obtain ⟨v', w', h1, h2, h3, -⟩ := run_append_own (P := P) w₀ B t ty e i z E.sz bytes hu hi hz hsz hb hzs E.pos (.slice a n c) n (l.flatMap E.f) (Bd hw ho.2) d2 l2.length c2 (l2.flatMap E.f) (Bc E l2) hnews (H7 E l2) (by omega) (by rw [hn]; exact hby) (by rw [← hw.size]; exact hB)
   refine ⟨v', w', h1, h2, h3, fun g c' hv => ?_⟩
   subst hv
   rcases ho.out with ⟨rfl, rfl, rfl, rfl⟩ | ⟨g0, cur, rfl, hb0, hg0, hn0, h10, h20, h30, h40⟩
   ·left
    obtain ⟨v2, w2, k1, k2, -, -⟩ := run_append_own (P := P) w₀ w₀.heap.size t ty e i z E.sz bytes hu hi hz hsz hb hzs E.pos (.slice none 0 0) 0 [] (World.ownsRow_nil _ _ _ _) d2 l2.length c2 (l2.flatMap E.f) (Bc E l2) hnews (H7 E l2) (by omega) (by simpa using hby) (Nat.le_refl _)
    rw [h1] at k1
    injection k1 with k1 _
    subst k1
    rcases k2.2 with ⟨e1, -⟩ | ⟨g', cap, cur, e1, e2, -⟩
    ·cases e1
    ·simp only [Value.slice.injEq, Option.some.injEq, Addr.mk.injEq] at e1
     obtain ⟨⟨rfl, -⟩, -⟩ := e1
     rw [hw.size]; exact e2
   ·have hg0' := hw.at hg0 (by simp [hole])
    by_cases hroom : n + l2.length ≤ c
    ·right
     have hr := run_append_room (P := P) w₀ t ty e i hu hi g0 n c cur hg0' d2 l2.length c2 (l2.flatMap E.f) (by rw [Bc, hsz]) hnews (H7 E l2) hroom (by rw [Bc, hsz, h30, ← Nat.add_mul]; exact Nat.mul_le_mul_right _ hroom)
     rw [h1] at hr
     injection hr with hr _
     simp only [Value.slice.injEq, Option.some.injEq, Addr.mk.injEq] at hr
     exact ⟨_, rfl, hr.1.1.symm⟩
    ·left
     have hr := run_append_grow (P := P) w₀ t ty e i z hu hi hz ⟨g0, 0, none⟩ n c (l.flatMap E.f) (by rw [Bc, hsz, hn]) (World.ownsRow.cells (Bd hw ho.2) rfl) d2 l2.length c2 (l2.flatMap E.f) (by rw [Bc, hsz]) hnews (by omega) (by simp only [maxLen] at h63; omega) (growslice_fits (by omega) (by rw [hn, hb]; exact hby))
     rw [h1] at hr
     injection hr with hr _
     simp only [Value.slice.injEq, Option.some.injEq, Addr.mk.injEq] at hr
     rw [hw.size]; exact Nat.le_of_eq hr.1.1.symm
  | none =>
   have h0 : l2 = [] := by
    cases l2 with
    | nil => rfl
    | cons x r => obtain ⟨d, hd, _⟩ := hs 0 x (by simp); cases hd
   subst h0
   have hc0 : c2 = 0 := hc2 rfl
   subst hc0
   have hr := run_append_owned_none (P := P) w₀ B t ty e i E.sz hu hi (.slice a n c) n (l.flatMap E.f) (Bd hw ho.2)
   refine ⟨_, _, hr, ?_, ⟨rfl, rfl, rfl, Nat.le_refl _, fun _ _ _ => rfl⟩, fun g c' hv => ?_⟩
   ·simpa using Bd hw ho.2
   ·simp only [Value.slice.injEq] at hv
    exact .inr ⟨_, hv.1, rfl⟩
 obtain ⟨v', w₀', hr, hown, hgr, hwhere⟩ := hrun
 refine ⟨v', w₀', hr, hgr, fun hgr' => ?_⟩
 -- the new row is to be seen
 have hrow : ∀ g, w₀'.heap[g]? ≠ some hole → (w.heap.size ≤ g ∨ ∃ d, a = some d ∧ d.block = g) → w.heap[g]? ≠ some hole := by
  intro g _ h he
  rcases h with h | ⟨d, rfl, rfl⟩
  ·have := lt_of_heap he; omega
  ·exact (hvis d.block rfl).2.2 he
 have hval : ∃ a' c', v' = .slice a' (l.length + l2.length) c' ∧ Own (A6 w w₀') B e E a' (l.length + l2.length) c' (l ++ l2) ∧ ∀ b, Blk a' b → Blk a b ∨ w.heap.size ≤ b := by
  obtain ⟨hlen, h⟩ := hown
  rcases h with ⟨rfl, h0⟩ | ⟨g, cap, cur, rfl, hb', hg, h1, h2, h3, h4⟩
  ·have e1 : l = [] := List.eq_nil_of_length_eq_zero (by omega)
   have e2 : l2 = [] := List.eq_nil_of_length_eq_zero (by omega)
   subst e1; subst e2
   exact ⟨none, 0, rfl, Own.nil _ _ _ _, fun b h => (Blk.none h).elim⟩
  ·have hor : w.heap.size ≤ g ∨ ∃ d, a = some d ∧ d.block = g := hwhere _ _ rfl
   have hv := hrow g (by rw [hg]; simp [hole]) hor
   refine ⟨some ⟨g, 0, none⟩, cap, by rw [hn], Own.mk' (by simp) hb' (by rw [A0 hv]; exact hg) (by rw [← hn]; exact h1) h2 h3 (by rw [← hn, h4]; simp), fun b hb => ?_⟩
   obtain ⟨d, hd, rfl⟩ := hb
   cases hd
   rcases hor with h | ⟨d, rfl, hd⟩
   ·exact .inr h
   ·exact .inl ⟨d, rfl, hd⟩
 obtain ⟨a', c', rfl, ho', hblk⟩ := hval
 refine hk a' c' _ ho' ⟨hgr'.os, hgr'.tape, hgr'.output, hgr'.size, fun b hb hn => hgr'.block b hb fun e => hn ?_⟩ hblk
 cases a with
 | none => cases e
 | some d => simp only [Value.ownBlock, Option.some.injEq] at e; exact ⟨d, rfl, e.symm⟩
end
end Go.Sx
