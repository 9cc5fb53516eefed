/- Maps keyed by numbers, as lists of keys and things. Conditions: none. -/
import Derived.Test.YtcpkneemhfnanaaGreatSxX
import Derived.MapKept
import Derived.Carry
import Derived.WideKeyElems
import Derived.Test.YtcpkneemhfnanaaGreatSxP
namespace Go.Sx
set_option linter.unusedSimpArgs false
open Go.MapKept
set_option linter.unusedVariables false
section
variable {P : Program} {α : Type}
def Av (w : World) (b : Nat) (q : IntKind) (F : α → Value) (m : List (Int × α)) : Prop :=
 ∃ es clock, w.heap[b]? = some (.map es clock) ∧ es.toList.map (fun e => (e.key, e.val)) = m.map (fun p => (Value.int q p.1, F p.2)) ∧ Stamped es clock ∧ (∀ p ∈ m, (Lit.int q p.1).wf = true)
theorem Av.lt {w : World} {b : Nat} {q : IntKind} {F : α → Value} {m : List (Int × α)} (h : Av w b q F m) : b < w.heap.size := by
 obtain ⟨es, clock, hb, -⟩ := h; exact lt_of_heap hb
theorem Av.vis {w : World} {b : Nat} {q : IntKind} {F : α → Value} {m : List (Int × α)} (h : Av w b q F m) : w.heap[b]? ≠ some hole := by
 obtain ⟨es, clock, hb, -⟩ := h; rw [hb]; simp [hole]
theorem Av.upd {S : Nat → Prop} {w w' : World} {b : Nat} {q : IntKind} {F : α → Value} {m : List (Int × α)} (h : Av w b q F m) (hu : Upd S w w') (hn : ¬ S b) : Av w' b q F m := by
 have hlt := h.lt
 obtain ⟨es, clock, hb, h2⟩ := h
 exact ⟨es, clock, (hu.block b hlt hn).trans hb, h2⟩
theorem Av.grew {w w' : World} {b : Nat} {q : IntKind} {F : α → Value} {m : List (Int × α)} (h : Av w b q F m) (hg : Grew w w') : Av w' b q F m := h.upd (hg.upd (S := fun _ => False)) (fun h => h)
theorem Av.empty {w w' : World} {b : Nat} {q : IntKind} {F : α → Value} (h : Ag w w' b (.map #[] 0)) : Av w' b q F ([] : List (Int × α)) := ⟨#[], 0, h.at_, rfl, stamped_empty 0, by simp⟩
theorem Av.nodup {w : World} {b : Nat} {q : IntKind} {F : α → Value} {m : List (Int × α)} (h : Av w b q F m) : (m.map (·.1)).Nodup := by
 obtain ⟨es, clock, -, he, hs, -⟩ := h
 have h1 := hs.2.2
 have h2 : es.toList.map (·.key) = (m.map (·.1)).map (Value.int q) := by
  have := congrArg (List.map Prod.fst) he
  simpa [List.map_map, Function.comp_def] using this
 rw [h2] at h1
 exact (List.pairwise_map.1 h1).imp fun hne e => hne (by rw [e])
def getM (m : List (Int × α)) (k : Int) : Option α := (m.find? fun p => p.1 == k).map (·.2)
def setM (m : List (Int × α)) (k : Int) (x : α) : List (Int × α) := if m.any (fun p => p.1 == k) then m.map (fun p => if p.1 == k then (k, x) else p) else m ++ [(k, x)]
def delM (m : List (Int × α)) (k : Int) : List (Int × α) := m.filter fun p => !(p.1 == k)
theorem Jv {q : IntKind} {F : α → Value} {m : List (Int × α)} {es : List MapEntry} (he : es.map (fun e => (e.key, e.val)) = m.map (fun p => (Value.int q p.1, F p.2))) {j : Nat} : (es[j]?).map (fun e => (e.key, e.val)) = (m[j]?).map (fun p => (Value.int q p.1, F p.2)) := by
 rw [← List.getElem?_map, ← List.getElem?_map, he]
theorem Aer {q : IntKind} {F : α → Value} {m : List (Int × α)} {es : List MapEntry} (he : es.map (fun e => (e.key, e.val)) = m.map (fun p => (Value.int q p.1, F p.2))) : ∀ x ∈ es, IsKey (.int q) x.key := by
 intro x hx
 obtain ⟨j, hj⟩ := List.getElem?_of_mem hx
 have := Jv he (j := j)
 rw [hj] at this
 cases hm : m[j]? with
 | none => rw [hm] at this; cases this
 | some p => rw [hm] at this; simp at this; rw [this.1]; simp [IsKey]
theorem R3 {q : IntKind} {F : α → Value} {m : List (Int × α)} {es : List MapEntry} (he : es.map (fun e => (e.key, e.val)) = m.map (fun p => (Value.int q p.1, F p.2))) (hnd : (m.map (·.1)).Nodup) (k : Int) :
  (Instr.findNow (.int q) (.int q k) es 0 = some none ∧ (∀ x ∈ es, x.key ≠ .int q k) ∧ getM m k = none ∧ (∀ p ∈ m, p.1 ≠ k)) ∨
  ∃ j e x, Instr.findNow (.int q) (.int q k) es 0 = some (some (j, e.val)) ∧ es[j]? = some e ∧ e.key = .int q k ∧ m[j]? = some (k, x) ∧ e.val = F x ∧ getM m k = some x ∧ ∀ i p, m[i]? = some p → p.1 = k → i = j := by
 have huniq : ∀ i j : Nat, ∀ p r : Int × α, m[i]? = some p → m[j]? = some r → p.1 = r.1 → i = j := by
  intro i j p r hi hj e
  have hil := (List.getElem?_eq_some_iff.1 hi).1
  have hjl := (List.getElem?_eq_some_iff.1 hj).1
  have h1 := List.pairwise_iff_getElem.1 hnd
  have key : ∀ a b : Nat, ∀ p r : Int × α, m[a]? = some p → m[b]? = some r → a < b → p.1 ≠ r.1 := by
   intro a b p r ha hb hab
   have hal := (List.getElem?_eq_some_iff.1 ha).1
   have hbl := (List.getElem?_eq_some_iff.1 hb).1
   have := h1 a b (by simpa using hal) (by simpa using hbl) hab
   rw [List.getElem?_eq_getElem hal] at ha; rw [List.getElem?_eq_getElem hbl] at hb
   cases ha; cases hb
   simpa using this
  rcases Nat.lt_trichotomy i j with h | h | h
  ·exact absurd e (key i j p r hi hj h)
  ·exact h
  ·exact absurd e.symm (key j i r p hj hi h)
 rcases findNow_spec (d := .int q) (k := .int q k) (by simp [IsKey]) es 0 (Aer he) with ⟨h1, h2⟩ | ⟨j, e, h1, h2, h3⟩
 ·have hno : ∀ p ∈ m, p.1 ≠ k := by
   intro p hp e
   obtain ⟨j, hj⟩ := List.getElem?_of_mem hp
   have := Jv he (j := j)
   rw [hj] at this
   cases hx : es[j]? with
   | none => rw [hx] at this; cases this
   | some x => rw [hx] at this; simp at this; exact h2 x (List.mem_of_getElem? hx) (by rw [this.1, e])
  refine .inl ⟨h1, h2, ?_, hno⟩
  unfold getM
  rw [List.find?_eq_none.2 (by intro p hp; simpa using hno p hp)]; rfl
 ·have := Jv he (j := j)
  rw [h2] at this
  cases hm : m[j]? with
  | none => rw [hm] at this; cases this
  | some p =>
   rw [hm] at this; simp at this
   have hk : p.1 = k := by have := this.1; rw [h3] at this; cases this; rfl
   refine .inr ⟨j, e, p.2, by rw [h1, Nat.zero_add], h2, h3, by rw [hm, ← hk], this.2, ?_, fun i r hi hr => huniq i j r p hi hm (hr.trans hk.symm)⟩
   unfold getM
   cases hf : m.find? (fun p => p.1 == k) with
   | none => have := List.find?_eq_none.1 hf p (List.mem_of_getElem? hm); simp [hk] at this
   | some r =>
    have hr := List.find?_some hf
    obtain ⟨i, hi⟩ := List.getElem?_of_mem (List.mem_of_find?_eq_some hf)
    have hij := huniq i j r p hi hm (by simp at hr; omega)
    subst hij
    rw [hi] at hm; cases hm; rfl
theorem Et {t : TypeId} {w : World} {k : Value → World → Prop} (hk : ∀ b w', Ag w w' b (.map #[] 0) → k (.map (some b)) w') : SemW P (Instr.makeMap t none) k w := by
 refine SemW.of_run none (by simp) fun w₀ hw => ⟨.map (some w₀.heap.size), w₀.alloc (.map #[] 0), rfl, World.grownBy_alloc w₀ _ none, fun hg => ?_⟩
 have hn : w.heap[w₀.heap.size]? ≠ some hole := by rw [← hw.size]; simp
 refine hk _ _ ⟨⟨hg.os, hg.tape, hg.output, hg.size, fun b hb => hg.block b hb (by simp)⟩, by rw [hw.size]; exact Nat.le_refl _, ?_⟩
 rw [Be hn]
 exact heap_alloc_new w₀ _
theorem R4 {t ty k e : TypeId} {w : World} {b : Nat} {q : IntKind} {F : α → Value} {m : List (Int × α)} {K : Value → World → Prop} (ht : P.underlying t = some (.map k e)) (h : Av w b q F m) (hk : K (.int .i64 m.length) w) :
  SemW P (Builtin.len_ #[t] ty #[.map (some b)]) K w := by
 obtain ⟨es, clock, hb, he, -⟩ := h
 intro w₀ hw
 have hb₀ := hw.at hb (by simp [hole])
 have hl : es.size = m.length := by have := congrArg List.length he; simpa using this
 refine ⟨_, w₀, w, ?_, hw, Kept.refl _ _, hk⟩
 simp [Builtin.len_, run_underlying ht, MapKept.run_getObj_map hb₀, Result.andThen, goInt, hl]
theorem E4 {t k e : TypeId} {w : World} {b : Nat} {q : IntKind} {F : α → Value} {m : List (Int × α)} {key : Int} {z : Value} {K : Value → World → Prop} (ht : P.underlying t = some (.map k e)) (hkt : P.underlying k = some (.int q)) (hz : ∀ w, (zeroValue e).run P w = .ok z w) (h : Av w b q F m)
  (hk : K (match getM m key with | some x => F x | none => z) w) : SemW P (Instr.lookup t (.map (some b)) (.int q key) false) K w := by
 have hnd := h.nodup
 obtain ⟨es, clock, hb, he, -⟩ := h
 intro w₀ hw
 have hb₀ := hw.at hb (by simp [hole])
 rcases R3 he hnd key with ⟨h1, h2, h3, -⟩ | ⟨j, e', x, h1, h2, h3, h4, h5, h6, -⟩
 ·rw [h3] at hk
  refine ⟨_, w₀, w, ?_, hw, Kept.refl _ _, hk⟩
  simp [Instr.lookup, run_underlying ht, MapKept.run_getObj_map hb₀, run_checkKey (d := .int q) (k := .int q key) hkt (by simp [IsKey]), run_findKey hkt h1, hz, Result.andThen]
 ·rw [h6] at hk
  simp only at hk
  rw [← h5] at hk
  refine ⟨_, w₀, w, ?_, hw, Kept.refl _ _, hk⟩
  simp [Instr.lookup, run_underlying ht, MapKept.run_getObj_map hb₀, run_checkKey (d := .int q) (k := .int q key) hkt (by simp [IsKey]), run_findKey hkt h1, Result.andThen]
theorem Tc {t k e : TypeId} {w : World} {b : Nat} {q : IntKind} {F : α → Value} {m : List (Int × α)} {key : Int} {z : Value} {K : Value → World → Prop} (ht : P.underlying t = some (.map k e)) (hkt : P.underlying k = some (.int q)) (hz : ∀ w, (zeroValue e).run P w = .ok z w) (h : Av w b q F m)
  (hk : K (.tuple (match getM m key with | some x => #[F x, .bool true] | none => #[z, .bool false])) w) : SemW P (Instr.lookup t (.map (some b)) (.int q key) true) K w := by
 have hnd := h.nodup
 obtain ⟨es, clock, hb, he, -⟩ := h
 intro w₀ hw
 have hb₀ := hw.at hb (by simp [hole])
 rcases R3 he hnd key with ⟨h1, h2, h3, -⟩ | ⟨j, e', x, h1, h2, h3, h4, h5, h6, -⟩
 ·rw [h3] at hk
  refine ⟨_, w₀, w, ?_, hw, Kept.refl _ _, hk⟩
  simp [Instr.lookup, run_underlying ht, MapKept.run_getObj_map hb₀, run_checkKey (d := .int q) (k := .int q key) hkt (by simp [IsKey]), run_findKey hkt h1, hz, Result.andThen]
 ·rw [h6] at hk
  simp only at hk
  rw [← h5] at hk
  refine ⟨_, w₀, w, ?_, hw, Kept.refl _ _, hk⟩
  simp [Instr.lookup, run_underlying ht, MapKept.run_getObj_map hb₀, run_checkKey (d := .int q) (k := .int q key) hkt (by simp [IsKey]), run_findKey hkt h1, Result.andThen]
theorem Eu {w w' : World} {b : Nat} (h : w.grownBy w' (some b)) : Upd (fun x => x = b) w w' := ⟨h.os, h.tape, h.output, h.size, fun k hk hn => h.block k hk (by simpa using hn)⟩
theorem Dv {w : World} {b : Nat} {o : Obj} : w.grownBy { w with heap := w.heap.setIfInBounds b o } (some b) := ⟨rfl, rfl, rfl, by simp, fun k hk hn => by
 simp only [ne_eq, Option.some.injEq] at hn
 rw [Array.getElem?_setIfInBounds_ne (fun e => hn e.symm)]⟩
theorem Ed {t k e : TypeId} {w : World} {b : Nat} {q : IntKind} {F : α → Value} {m : List (Int × α)} {key : Int} {x : α} {K : Unit → World → Prop} (ht : P.underlying t = some (.map k e)) (hkt : P.underlying k = some (.int q)) (h : Av w b q F m) (hw : (Lit.int q key).wf = true)
  (hk : ∀ w', Av w' b q F (setM m key x) → Upd (fun y => y = b) w w' → K () w') : SemW P (Instr.mapUpdate t (.map (some b)) (.int q key) (F x)) K w := by
 have hnd := h.nodup
 have hvis := h.vis
 obtain ⟨es, clock, hb, he, hs, hwf⟩ := h
 refine SemW.of_run (some b) (fun b' e => by cases e; exact hvis) fun w₀ hw₀ => ?_
 have hb₀ := hw₀.at hb (by simp [hole])
 rcases R3 he hnd key with ⟨h1, h2, h3, h4⟩ | ⟨j, e', x', h1, h2, h3, h4, h5, h6, h7⟩
 ·refine ⟨(), { w₀ with heap := w₀.heap.setIfInBounds b (.map (es.push ⟨.int q key, F x, clock⟩) (clock + 1)) }, ?_, Dv, fun hg => hk _ ⟨es.push ⟨.int q key, F x, clock⟩, clock + 1, by rw [Be hvis]; exact (heap_set hb₀).1, ?_, stamped_push hs h2, ?_⟩ (Eu hg)⟩
  ·simp [Instr.mapUpdate, run_underlying ht, MapKept.run_getObj_map hb₀, run_checkKey (d := .int q) (k := .int q key) hkt (by simp [IsKey]), run_findKey hkt h1, run_setObj_map _ hb₀, Result.andThen]
  ·rw [setM, if_neg (by simp; exact fun a hab => h4 _ hab rfl)]
   simp [he]
  ·rw [setM, if_neg (by simp; exact fun a hab => h4 _ hab rfl)]
   intro p hp
   rcases List.mem_append.1 hp with hp | hp
   ·exact hwf p hp
   ·simp at hp; subst hp; exact hw
 ·have hj : es[j]? = some e' := by simpa using h2
  have hkeyf : ∀ e'', es[j]? = some e'' → ({ e'' with key := Value.int q key, val := F x } : MapEntry).key = e''.key := fun e'' he'' => by rw [hj] at he''; cases he''; exact h3.symm
  have hany : (m.any fun p => p.1 == key) = true := by simp only [List.any_eq_true]; exact ⟨(key, x'), List.mem_of_getElem? h4, by simp⟩
  refine ⟨(), { w₀ with heap := w₀.heap.setIfInBounds b (.map (es.modify j fun e => { e with key := .int q key, val := F x }) clock) }, ?_, Dv, fun hg => hk _ ⟨es.modify j fun e => { e with key := .int q key, val := F x }, clock, by rw [Be hvis]; exact (heap_set hb₀).1, ?_, stamped_modify hs _ _ (fun _ _ => rfl) (fun e'' _ he'' => hkeyf e'' he''), ?_⟩ (Eu hg)⟩
  ·simp [Instr.mapUpdate, run_underlying ht, MapKept.run_getObj_map hb₀, run_checkKey (d := .int q) (k := .int q key) hkt (by simp [IsKey]), run_findKey hkt h1, hj, h3, run_keyThatStays (d := .int q) (k := .int q key) (by simp [IsKey]), run_setObj_map _ hb₀, Result.andThen]
  ·rw [setM, if_pos hany]
   apply List.ext_getElem?
   intro i
   have hi := Jv he (j := i)
   simp only [List.getElem?_map, Array.getElem?_toList, Array.getElem?_modify] at hi ⊢
   by_cases hij : j = i
   ·subst hij
    rw [hj, h4]; simp
   ·rw [if_neg hij]
    rw [hi]
    cases hm : m[i]? with
    | none => simp
    | some p =>
     have hne : ¬ p.1 = key := fun e => hij (h7 i p hm e).symm
     simp [hne]
  ·rw [setM, if_pos hany]
   intro p hp
   obtain ⟨r, hr, rfl⟩ := List.mem_map.1 hp
   split
   ·exact hw
   ·exact hwf r hr
theorem G6 {β γ : Type} (f : β → γ) : ∀ (l : List β) (j : Nat), (l.eraseIdx j).map f = (l.map f).eraseIdx j
 | [], j => by simp
 | a :: l, 0 => by simp
 | a :: l, j + 1 => by simp [G6 f l j]
theorem U5 {t k e ty : TypeId} {w : World} {b : Nat} {q : IntKind} {F : α → Value} {m : List (Int × α)} {key : Int} {K : Value → World → Prop} (ht : P.underlying t = some (.map k e)) (hkt : P.underlying k = some (.int q)) (h : Av w b q F m)
  (hk : ∀ w', Av w' b q F (delM m key) → Upd (fun y => y = b) w w' → K (.tuple #[]) w') : SemW P (Builtin.delete_ #[t, k] ty #[.map (some b), .int q key]) K w := by
 have hnd := h.nodup
 have hvis := h.vis
 obtain ⟨es, clock, hb, he, hs, hwf⟩ := h
 refine SemW.of_run (some b) (fun b' e => by cases e; exact hvis) fun w₀ hw₀ => ?_
 have hb₀ := hw₀.at hb (by simp [hole])
 have hwf' : ∀ p ∈ delM m key, (Lit.int q p.1).wf = true := fun p hp => hwf p (List.mem_filter.1 hp).1
 rcases R3 he hnd key with ⟨h1, h2, h3, h4⟩ | ⟨j, e', x', h1, h2, h3, h4, h5, h6, h7⟩
 ·refine ⟨_, { w₀ with heap := w₀.heap.setIfInBounds b (.map es clock) }, ?_, Dv, fun hg => hk _ ⟨es, clock, by rw [Be hvis]; exact (heap_set hb₀).1, ?_, hs, hwf'⟩ (Eu hg)⟩
  ·simp [Builtin.delete_, run_underlying ht, MapKept.run_getObj_map hb₀, run_checkKey (d := .int q) (k := .int q key) hkt (by simp [IsKey]), run_findKey hkt h1, run_setObj_map _ hb₀, Result.andThen]
  ·rw [delM, List.filter_eq_self.2 (by intro p hp; simpa using h4 p hp)]; exact he
 ·have hjs : j < es.size := by have := (List.getElem?_eq_some_iff.1 h2).1; simpa using this
  have hsub : (es.eraseIdxIfInBounds j).toList = es.toList.eraseIdx j := by
   unfold Array.eraseIdxIfInBounds
   rw [dif_pos hjs]
   simp
  refine ⟨_, { w₀ with heap := w₀.heap.setIfInBounds b (.map (es.eraseIdxIfInBounds j) clock) }, ?_, Dv, fun hg => hk _ ⟨es.eraseIdxIfInBounds j, clock, by rw [Be hvis]; exact (heap_set hb₀).1, ?_, stamped_erase hs j, hwf'⟩ (Eu hg)⟩
  ·simp [Builtin.delete_, run_underlying ht, MapKept.run_getObj_map hb₀, run_checkKey (d := .int q) (k := .int q key) hkt (by simp [IsKey]), run_findKey hkt h1, run_setObj_map _ hb₀, Result.andThen]
  ·rw [hsub, G6, he, ← G6]
   congr 1
   have hp : ∀ (l : List (Int × α)) (j : Nat) (r : Int × α), l[j]? = some r → r.1 = key → (∀ i p, l[i]? = some p → p.1 = key → i = j) → l.eraseIdx j = l.filter fun p => !(p.1 == key) := by
    intro l
    induction l with
    | nil => intro j r h; simp at h
    | cons a l ih =>
     intro j r hj hr hu
     cases j with
     | zero =>
      simp at hj; subst hj
      rw [List.eraseIdx_cons_zero, List.filter_cons, if_neg (by simp [hr])]
      symm
      refine List.filter_eq_self.2 fun p hp => ?_
      obtain ⟨i, hi⟩ := List.getElem?_of_mem hp
      have : ¬ p.1 = key := fun e => by have := hu (i + 1) p (by simpa using hi) e; omega
      simp [this]
     | succ j =>
      have ha : ¬ a.1 = key := fun e => by have := hu 0 a rfl e; omega
      rw [List.eraseIdx_cons_succ, List.filter_cons, if_pos (by simp [ha])]
      congr 1
      exact ih j r (by simpa using hj) hr fun i p hi hp => by have := hu (i + 1) p (by simpa using hi) hp; omega
   exact hp m j _ h4 rfl h7
end
end Go.Sx
namespace Go.Sx
set_option linter.unusedSimpArgs false
set_option linter.unusedVariables false
section
variable {α β : Type}
theorem Own.objC {w : World} {B : Nat} {e : TypeId} {E : Enc α} {a : Option Addr} {n c : Nat} {l : List α} (h : Own w B e E a n c l) {b : Nat} (hb : Blk a b) : ∃ cur, w.heap[b]? = some (.cells cur e (0, 0)) := by
 obtain ⟨d, rfl, rfl⟩ := hb
 rcases h.out with ⟨h, -⟩ | ⟨g, cur, hd, -, hg, -⟩
 ·cases h
 ·cases hd; exact ⟨cur, hg⟩
theorem own_ne {w : World} {B B' : Nat} {e e' : TypeId} {E : Enc α} {E' : Enc β} {a a' : Option Addr} {n c n' c' : Nat} {l : List α} {l' : List β} (h : Own w B e E a n c l) (h' : Own w B' e' E' a' n' c' l') (hne : e ≠ e') : ∀ b, Blk a b → ¬ Blk a' b := by
 intro b hb hb'
 obtain ⟨c1, h1⟩ := h.objC hb
 obtain ⟨c2, h2⟩ := h'.objC hb'
 rw [h1] at h2
 exact hne (Obj.cells.inj (Option.some.inj h2)).2.1
theorem Row.own_ne {w : World} {B : Nat} {g : Nat} {e e' : TypeId} {cs : List Value} {E : Enc α} {a : Option Addr} {n c : Nat} {l : List α} (h : Row w g e cs) (h' : Own w B e' E a n c l) (hne : e ≠ e') : ¬ Blk a g := by
 intro hb
 obtain ⟨c2, h2⟩ := h'.objC hb
 unfold Row at h
 rw [h] at h2
 exact hne (Obj.cells.inj (Option.some.inj h2)).2.1
theorem Av.own_ne {w : World} {B b : Nat} {q : IntKind} {F : β → Value} {m : List (Int × β)} {e : TypeId} {E : Enc α} {a : Option Addr} {n c : Nat} {l : List α} (h : Av w b q F m) (h' : Own w B e E a n c l) : ¬ Blk a b := by
 intro hb
 obtain ⟨c2, h2⟩ := h'.objC hb
 obtain ⟨es, ck, h1, -⟩ := h
 rw [h1] at h2; cases h2
theorem Av.row_ne {w : World} {b g : Nat} {q : IntKind} {F : β → Value} {m : List (Int × β)} {e : TypeId} {cs : List Value} (h : Av w b q F m) (h' : Row w g e cs) : g ≠ b := by
 rintro rfl
 obtain ⟨es, ck, h1, -⟩ := h
 unfold Row at h'
 rw [h1] at h'; cases h'
theorem Row.row_ne {w : World} {g g' : Nat} {e e' : TypeId} {cs cs' : List Value} (h : Row w g e cs) (h' : Row w g' e' cs') (hne : e ≠ e') : g ≠ g' := by
 rintro rfl
 unfold Row at h h'
 rw [h] at h'
 exact hne (Obj.cells.inj (Option.some.inj h')).2.1
theorem Own.set1 {w : World} {B : Nat} {e : TypeId} {E : Enc α} {a : Option Addr} {n c : Nat} {l : List α} (h : Own w B e E a n c l) {i j : Nat} {x x' : α} {v : Value} (hi : l[i]? = some x) (hj : j < E.sz) (hx : E.f x' = (E.f x).set j v) :
  ∃ g, a = some ⟨g, 0, none⟩ ∧ Af w ⟨g, i * E.sz + j, none⟩ 0 [v] ∧ Own (setCells w ⟨g, i * E.sz + j, none⟩ 0 [v]) B e E a n c (l.set i x') ∧ Upd (fun b => b = g) w (setCells w ⟨g, i * E.sz + j, none⟩ 0 [v]) := by
 have hil : i < l.length := (List.getElem?_eq_some_iff.1 hi).1
 rcases h.row with ⟨-, rfl, -, -⟩ | ⟨g, cs, rfl, hB, hr, hn, hnc, hc, hl, ht⟩
 ·simp at hil
 ·have hle : i * E.sz + E.sz ≤ n * E.sz := by rw [← Nat.succ_mul]; exact Nat.mul_le_mul_right _ (by omega)
  have hle2 : n * E.sz ≤ c * E.sz := Nat.mul_le_mul_right _ hnc
  obtain ⟨h1, h2, h3⟩ := hr.set1 (o := i * E.sz + j) (by omega) v
  refine ⟨g, rfl, h1, Own.ofRow (by simp [hn]) hB h2 hnc hc (by simp [hl]) ?_, h3⟩
  apply List.ext_getElem?
  intro k
  rw [Oh E l i x' hil, List.getElem?_take]
  have hflat : ∀ k, k < n * E.sz → cs[k]? = (l.flatMap E.f)[k]? := fun k hk => by rw [← ht, List.getElem?_take, if_pos hk]
  by_cases hk : k < n * E.sz
  ·rw [if_pos hk, List.getElem?_set]
   by_cases hkj : i * E.sz + j = k
   ·subst hkj
    rw [if_pos rfl, if_pos (by omega), if_pos (by omega), hx]
    simp only [show i * E.sz + j - i * E.sz = j from by omega, List.getElem?_set, if_true]
    rw [if_pos (by rw [E.len]; exact hj)]
   ·rw [if_neg hkj]
    by_cases hin : i * E.sz ≤ k ∧ k < i * E.sz + E.sz
    ·rw [if_pos hin, hx, List.getElem?_set, if_neg (by omega), hflat k hk]
     have := flat_get E l i (k - i * E.sz) x hi (by omega)
     rw [show i * E.sz + (k - i * E.sz) = k from by omega] at this
     exact this
    ·rw [if_neg hin, hflat k hk]
  ·rw [if_neg hk, if_neg (by omega)]
   rw [List.getElem?_eq_none (by rw [Cx]; rw [← hn]; omega)]
end
theorem Jw {P : Program} {e : TypeId} {z : Value} (h : (P.info? e).map (·.zero) = some (some z)) : ∀ w, (zeroValue e).run P w = .ok z w := by
 intro w
 cases hi : P.info? e with
 | none => rw [hi] at h; cases h
 | some i =>
  rw [hi] at h
  simp at h
  simp [zeroValue, typeInfo, hi, h, Result.andThen]
structure SrcV where
 parts : List (List RecV × Bool)
 list : List OpV
 keys : List Int
deriving DecidableEq
def SrcV.getP (v : SrcV) (p : Int) : Option (List RecV × Bool) := if 0 ≤ p then v.parts[p.toNat]? else none
def SrcV.setP (v : SrcV) (p : Int) (q : List RecV × Bool) : SrcV := { v with parts := v.parts.set p.toNat q }
def SrcV.produce (v : SrcV) (p : Int) (r : RecV) : SrcV × Int :=
 match v.getP p with
 | none => (v, 60)
 | some q => if 256 ≤ q.1.length then (v, 61) else
  if (A8 v.list r).2 then
   if (A8 v.list r).1 ∈ v.keys then (v.setP p (q.1 ++ [r], q.2), 0)
   else if 64 ≤ v.keys.length then (v, 62) else ({ v.setP p (q.1 ++ [r], q.2) with keys := v.keys ++ [(A8 v.list r).1] }, 0)
  else (v.setP p (q.1 ++ [r], q.2), 0)
def SrcV.switch (v : SrcV) (p : Int) (on : Bool) : SrcV × Int := match v.getP p with | none => (v, 60) | some q => (v.setP p (q.1, !on), 0)
def SrcV.up (v : SrcV) (p : Int) : Bool := match v.getP p with | none => false | some q => !q.2
def SrcV.len (v : SrcV) (p : Int) : Int := match v.getP p with | none => 0 | some q => q.1.length
def SrcV.log (v : SrcV) (p : Int) : List RecV := match v.getP p with | none => [] | some q => q.1
structure SrcV.Fits (v : SrcV) : Prop where
 list : ∀ o ∈ v.list, o.Fits
 check : Aw v.list = true
 parts : 1 ≤ v.parts.length ∧ v.parts.length ≤ 4
 logs : ∀ q ∈ v.parts, q.1.length ≤ 256 ∧ ∀ r ∈ q.1, r.Fits
 keys : v.keys.Nodup ∧ v.keys.length ≤ 64 ∧ ∀ k ∈ v.keys, 0 ≤ k ∧ k < u64m
def Dz (n : Nat) (l : List OpV) : SrcV := ⟨List.replicate n ([], false), l, []⟩
theorem A4 {v : SrcV} {p : Int} {q : List RecV × Bool} (h : v.getP p = some q) : 0 ≤ p ∧ p < v.parts.length ∧ v.parts[p.toNat]? = some q := by
 unfold SrcV.getP at h
 split at h
 ·rename_i h0
  have := (List.getElem?_eq_some_iff.1 h).1
  exact ⟨h0, by omega, h⟩
 ·cases h
theorem Qr {v : SrcV} {p : Int} (h : v.getP p = none) : p < 0 ∨ (v.parts.length : Int) ≤ p := by
 unfold SrcV.getP at h
 split at h
 ·have := List.getElem?_eq_none_iff.1 h
  omega
 ·omega
theorem Adi {v : SrcV} {p : Int} (h0 : 0 ≤ p) (h1 : p < v.parts.length) : ∃ q, v.getP p = some q := by
 unfold SrcV.getP
 rw [if_pos h0]
 exact ⟨_, List.getElem?_eq_getElem (by omega)⟩
theorem R5 {α : Type} {l : List α} {i : Nat} {x y : α} (h : y ∈ l.set i x) : y = x ∨ y ∈ l := by
 rcases List.mem_or_eq_of_mem_set h with h | h
 ·exact .inr h
 ·exact .inl h
theorem Ma {v : SrcV} {p : Int} {q : List RecV × Bool} (h : v.Fits) (hq : q.1.length ≤ 256 ∧ ∀ r ∈ q.1, r.Fits) : (v.setP p q).Fits :=
 ⟨h.list, h.check, by simpa [SrcV.setP] using h.parts, fun x hx => by
  rcases R5 hx with rfl | hx
  ·exact hq
  ·exact h.logs x hx, h.keys⟩
theorem Na {l : List OpV} {r : RecV} (hl : ∀ o ∈ l, o.Fits) (hr : r.Fits) : 0 ≤ (A8 l r).1 ∧ (A8 l r).1 < u64m := (Hl hl hr).1
theorem R6 {v : SrcV} {p : Int} {r : RecV} (h : v.Fits) (hr : r.Fits) : (v.produce p r).1.Fits := by
 unfold SrcV.produce
 split
 ·exact h
 ·rename_i q hq
  obtain ⟨h0, h1, h2⟩ := A4 hq
  have hql := h.logs q (List.mem_of_getElem? h2)
  split
  ·exact h
  ·rename_i hlt
   have hq' : (q.1 ++ [r], q.2).1.length ≤ 256 ∧ ∀ x ∈ (q.1 ++ [r], q.2).1, x.Fits := by
    refine ⟨by simp; omega, fun x hx => ?_⟩
    rcases List.mem_append.1 hx with hx | hx
    ·exact hql.2 x hx
    ·simp at hx; subst hx; exact hr
   have h3 := Ma (p := p) (q := (q.1 ++ [r], q.2)) h hq'
   split
   ·split
    ·exact h3
    ·split
     ·exact h
     ·rename_i hnew hk
      refine ⟨h3.list, h3.check, h3.parts, h3.logs, List.nodup_append.2 ⟨h.keys.1, by simp, ?_⟩, by simp; omega, ?_⟩
      ·intro a ha b hb; simp at hb; subst hb; exact fun e => hnew (e ▸ ha)
      ·intro k hk
       rcases List.mem_append.1 hk with hk | hk
       ·exact h.keys.2.2 k hk
       ·simp at hk; subst hk; exact Na h.list hr
   ·exact h3
theorem Td {v : SrcV} {p : Int} {on : Bool} (h : v.Fits) : (v.switch p on).1.Fits := by
 unfold SrcV.switch
 split
 ·exact h
 ·rename_i q hq
  exact Ma h (h.logs q (List.mem_of_getElem? (A4 hq).2.2))
def Enc.part : Enc ((Option Addr × Nat × Nat) × Bool) := ⟨2, fun s => [.slice s.1.1 s.1.2.1 s.1.2.2, .bool s.2], fun _ => rfl, by decide, fun x v h => by simp at h; rcases h with rfl | rfl <;> rfl⟩
structure SrcX where
 p : Nat
 pb : Nat
 mb : Nat
 pc : Nat
 la : Option Addr × Nat × Nat
 ps : List ((Option Addr × Nat × Nat) × Bool)
def Kh : Unit → Value := fun _ => .agg #[]
def SrcX.Foot (x : SrcX) (b : Nat) : Prop := b = x.p ∨ b = x.pb ∨ b = x.mb ∨ Blk x.la.1 b ∨ ∃ s ∈ x.ps, Blk s.1.1 b
structure Fl (tS tP tR tO : TypeId) (w : World) (B : Nat) (x : SrcX) (v : SrcV) : Prop where
 row : Row w x.p tS [.slice (some ⟨x.pb, 0, none⟩) x.ps.length x.pc, .slice x.la.1 x.la.2.1 x.la.2.2, .map (some x.mb)]
 parts : Own w B tP Enc.part (some ⟨x.pb, 0, none⟩) x.ps.length x.pc x.ps
 len : x.ps.length = v.parts.length
 logs : ∀ (i : Nat) s, x.ps[i]? = some s → ∃ q, v.parts[i]? = some q ∧ s.2 = q.2 ∧ Own w B tR Enc.rcd s.1.1 s.1.2.1 s.1.2.2 q.1
 apart : ∀ (i j : Nat) s t, i ≠ j → x.ps[i]? = some s → x.ps[j]? = some t → ∀ b, Blk s.1.1 b → ¬ Blk t.1.1 b
 list : Own w B tO Enc.op3 x.la.1 x.la.2.1 x.la.2.2 v.list
 map : Av w x.mb .u64 Kh (v.keys.map fun k => (k, ()))
 pB : B ≤ x.p
 mB : B ≤ x.mb
 fits : v.Fits
def SrcD (tS tP tR tO : TypeId) : Prop := tS ≠ tP ∧ tS ≠ tR ∧ tS ≠ tO ∧ tP ≠ tR ∧ tP ≠ tO ∧ tR ≠ tO
section
variable {tS tP tR tO : TypeId}
theorem Fl.foot {w : World} {B : Nat} {x : SrcX} {v : SrcV} (h : Fl tS tP tR tO w B x v) {b : Nat} (hb : x.Foot b) : B ≤ b ∧ b < w.heap.size := by
 rcases hb with rfl | rfl | rfl | hb | ⟨s, hs, hb⟩
 ·exact ⟨h.pB, h.row.lt⟩
 ·exact h.parts.blk (b := x.pb) ⟨_, rfl, rfl⟩
 ·exact ⟨h.mB, h.map.lt⟩
 ·exact h.list.blk hb
 ·obtain ⟨i, hi⟩ := List.getElem?_of_mem hs
  obtain ⟨q, -, -, ho⟩ := h.logs i s hi
  exact ho.blk hb
theorem Fl.upd {S : Nat → Prop} {w w' : World} {B : Nat} {x : SrcX} {v : SrcV} (h : Fl tS tP tR tO w B x v) (hu : Upd S w w') (hn : ∀ b, x.Foot b → ¬ S b) : Fl tS tP tR tO w' B x v :=
 ⟨h.row.upd hu (hn _ (.inl rfl)), h.parts.upd hu fun b hb => hn b (by obtain ⟨d, hd, rfl⟩ := hb; cases hd; exact .inr (.inl rfl)), h.len, fun i s hs => by
  obtain ⟨q, h1, h2, h3⟩ := h.logs i s hs
  exact ⟨q, h1, h2, h3.upd hu fun b hb => hn b (.inr (.inr (.inr (.inr ⟨s, List.mem_of_getElem? hs, hb⟩))))⟩, h.apart, h.list.upd hu fun b hb => hn b (.inr (.inr (.inr (.inl hb)))), h.map.upd hu (hn _ (.inr (.inr (.inl rfl)))), h.pB, h.mB, h.fits⟩
theorem Fl.grew {w w' : World} {B : Nat} {x : SrcX} {v : SrcV} (h : Fl tS tP tR tO w B x v) (hg : Grew w w') : Fl tS tP tR tO w' B x v := h.upd (hg.upd (S := fun _ => False)) fun _ _ h => h
structure Fo (tS tP tR tO : TypeId) (w : World) (B : Nat) (x : SrcX) (w' : World) (v' : SrcV) : Prop where
 out : ∃ x', Fl tS tP tR tO w' B x' v' ∧ x'.p = x.p ∧ Upd x.Foot w w' ∧ ∀ b, x'.Foot b → x.Foot b ∨ w.heap.size ≤ b
theorem Fo.grew {w w' : World} {B : Nat} {x : SrcX} {v : SrcV} (h : Fl tS tP tR tO w B x v) (hg : Grew w w') : Fo tS tP tR tO w B x w' v := ⟨⟨x, h.grew hg, rfl, hg.upd, fun _ hb => .inl hb⟩⟩
theorem Fl.part {w : World} {B : Nat} {x : SrcX} {v : SrcV} (h : Fl tS tP tR tO w B x v) {p : Int} {q : List RecV × Bool} (hq : v.getP p = some q) :
  ∃ s, x.ps[p.toNat]? = some s ∧ s.2 = q.2 ∧ Own w B tR Enc.rcd s.1.1 s.1.2.1 s.1.2.2 q.1 ∧ w.cell? ⟨x.pb, p.toNat * 2, none⟩ = some (.slice s.1.1 s.1.2.1 s.1.2.2) ∧ w.cell? ⟨x.pb, p.toNat * 2 + 1, none⟩ = some (.bool s.2) := by
 obtain ⟨h0, h1, h2⟩ := A4 hq
 have hlt : p.toNat < x.ps.length := by rw [h.len]; omega
 obtain ⟨s, hs⟩ : ∃ s, x.ps[p.toNat]? = some s := ⟨_, List.getElem?_eq_getElem hlt⟩
 obtain ⟨q', h3, h4, h5⟩ := h.logs _ s hs
 rw [h2] at h3; cases h3
 obtain ⟨d, s', hd, hs', hc⟩ := h.parts.reads.at0 hlt
 rw [hs] at hs'; cases hs'
 cases hd
 refine ⟨s, hs, h4, h5, ?_, ?_⟩
 ·have := Ai hc 0 _ rfl
  simpa [Au, Enc.part] using this
 ·have := Ai hc 1 _ rfl
  simpa [Au, Enc.part] using this
theorem Fl.setPart {w w1 : World} {B : Nat} {x : SrcX} {v : SrcV} (h : Fl tS tP tR tO w B x v) (hD : SrcD tS tP tR tO) {p : Int} {q : List RecV × Bool} (hq : v.getP p = some q) {s : (Option Addr × Nat × Nat) × Bool} (hs : x.ps[p.toNat]? = some s)
  {a' : Option Addr} {n' c' : Nat} {log' : List RecV} {off' : Bool} (ho : Own w1 B tR Enc.rcd a' n' c' log') (hu : Upd (Blk s.1.1) w w1) (hb : ∀ b, Blk a' b → Blk s.1.1 b ∨ w.heap.size ≤ b) (hf : log'.length ≤ 256 ∧ ∀ r ∈ log', r.Fits)
  {j : Nat} {val : Value} (hj : j < 2) (hx : Enc.part.f ((a', n', c'), off') = (Enc.part.f s).set j val) :
  Af w1 ⟨x.pb, p.toNat * 2 + j, none⟩ 0 [val] ∧ ∀ w2, w2 = setCells w1 ⟨x.pb, p.toNat * 2 + j, none⟩ 0 [val] → Fo tS tP tR tO w B x w2 (v.setP p (log', off')) := by
 obtain ⟨d1, d2, d3, d4, d5, d6⟩ := hD
 obtain ⟨q0, hq0, -, ho0⟩ := h.logs _ s hs
 have hsm := List.mem_of_getElem? hs
 have hpb : ∀ b, Blk (some (⟨x.pb, 0, none⟩ : Addr)) b → ¬ Blk s.1.1 b := own_ne h.parts ho0 d4
 have hP1 := h.parts.upd hu hpb
 obtain ⟨g, hg, hR, hO, hU⟩ := hP1.set1 hs hj hx
 cases hg
 refine ⟨hR, ?_⟩
 rintro w2 rfl
 have hU2 : Upd (fun b => Blk s.1.1 b ∨ b = x.pb) w (setCells w1 ⟨x.pb, p.toNat * Enc.part.sz + j, none⟩ 0 [val]) := (hu.mono fun b _ hb => .inl hb).trans (hU.mono fun b _ hb => .inr hb)
 have hil : p.toNat < x.ps.length := (List.getElem?_eq_some_iff.1 hs).1
 have hfoot : ∀ b, (Blk s.1.1 b ∨ b = x.pb) → x.Foot b := fun b hb => hb.elim (fun h => .inr (.inr (.inr (.inr ⟨s, hsm, h⟩)))) (fun h => .inr (.inl h))
 have hnb : ∀ {b : Nat}, b < w.heap.size → ¬ Blk s.1.1 b → ¬ Blk a' b := fun hlt hn hb' => (hb _ hb').elim hn (fun h => by omega)
 have hrow : ¬ (Blk s.1.1 x.p ∨ x.p = x.pb) := fun hh => hh.elim (h.row.own_ne ho0 d2) (fun e => h.row.own_ne h.parts d1 ⟨_, rfl, e.symm⟩)
 have hmap : ¬ (Blk s.1.1 x.mb ∨ x.mb = x.pb) := fun hh => hh.elim (h.map.own_ne ho0) (fun e => h.map.own_ne h.parts ⟨_, rfl, e.symm⟩)
 have hlist : ∀ b, Blk x.la.1 b → ¬ (Blk s.1.1 b ∨ b = x.pb) := fun b hb hh => hh.elim (own_ne h.list ho0 (Ne.symm d6) b hb) (fun e => own_ne h.list h.parts (Ne.symm d5) b hb ⟨_, rfl, e.symm⟩)
 have hset : ∀ (i : Nat) t, (x.ps.set p.toNat ((a', n', c'), off'))[i]? = some t → (i = p.toNat ∧ t = ((a', n', c'), off')) ∨ (i ≠ p.toNat ∧ x.ps[i]? = some t) := by
  intro i t ht
  rw [List.getElem?_set] at ht
  by_cases hi : p.toNat = i
  ·rw [if_pos hi, if_pos (by omega)] at ht
   cases ht; exact .inl ⟨hi.symm, rfl⟩
  ·rw [if_neg hi] at ht; exact .inr ⟨fun e => hi e.symm, ht⟩
 refine ⟨⟨{ x with ps := x.ps.set p.toNat ((a', n', c'), off') }, ⟨?_, ?_, by simp [SrcV.setP, h.len], fun i t ht => ?_, fun i k t u hik ht hu' b hbt hbu => ?_, ?_, ?_, h.pB, h.mB, Ma h.fits hf⟩, rfl, hU2.mono fun b _ hb => hfoot b hb, fun b hb' => ?_⟩⟩
 ·have := h.row.upd hU2 hrow
  show Row _ x.p tS [.slice (some ⟨x.pb, 0, none⟩) (x.ps.set p.toNat ((a', n', c'), off')).length x.pc, .slice x.la.1 x.la.2.1 x.la.2.2, .map (some x.mb)]
  rw [List.length_set]; exact this
 ·show Own _ B tP Enc.part (some ⟨x.pb, 0, none⟩) (x.ps.set p.toNat ((a', n', c'), off')).length x.pc (x.ps.set p.toNat ((a', n', c'), off'))
  rw [List.length_set]; exact hO
 ·rcases hset i t ht with ⟨rfl, rfl⟩ | ⟨hi, ht⟩
  ·refine ⟨(log', off'), ?_, rfl, ho.upd hU fun b hb' e => ?_⟩
   ·show (v.parts.set p.toNat (log', off'))[p.toNat]? = _
    rw [List.getElem?_set, if_pos rfl, if_pos (by rw [← h.len]; exact hil)]
   ·subst e
    have hlt : x.pb < w.heap.size := (h.foot (.inr (.inl rfl))).2
    exact hnb hlt (hpb _ ⟨_, rfl, rfl⟩) hb'
  ·obtain ⟨qi, h1, h2, h3⟩ := h.logs i t ht
   refine ⟨qi, ?_, h2, h3.upd hU2 fun b hb' hh => ?_⟩
   ·show (v.parts.set p.toNat (log', off'))[i]? = _
    rw [List.getElem?_set, if_neg (fun e => hi e.symm)]; exact h1
   ·rcases hh with hh | rfl
    ·exact h.apart i p.toNat t s hi ht hs b hb' hh
    ·exact own_ne h.parts h3 d4 _ ⟨_, rfl, rfl⟩ hb'
 ·rcases hset i t ht with ⟨rfl, rfl⟩ | ⟨hi, ht⟩
  ·rcases hset k u hu' with ⟨rfl, -⟩ | ⟨hk, hu'⟩
   ·exact hik rfl
   ·obtain ⟨qi, -, -, h3⟩ := h.logs k u hu'
    rcases hb b hbt with hh | hh
    ·exact h.apart k p.toNat u s hk hu' hs b hbu hh
    ·have := (h3.blk hbu).2; omega
  ·rcases hset k u hu' with ⟨rfl, rfl⟩ | ⟨hk, hu'⟩
   ·obtain ⟨qi, -, -, h3⟩ := h.logs i t ht
    rcases hb b hbu with hh | hh
    ·exact h.apart i p.toNat t s hi ht hs b hbt hh
    ·have := (h3.blk hbt).2; omega
   ·exact h.apart i k t u hik ht hu' b hbt hbu
 ·exact h.list.upd hU2 hlist
 ·exact h.map.upd hU2 hmap
 ·rcases hb' with h' | h' | h' | h' | ⟨t, ht, h'⟩
  ·exact .inl (.inl h')
  ·exact .inl (.inr (.inl h'))
  ·exact .inl (.inr (.inr (.inl h')))
  ·exact .inl (.inr (.inr (.inr (.inl h'))))
  ·rcases R5 ht with rfl | ht
   ·exact (hb b h').imp (fun h => .inr (.inr (.inr (.inr ⟨s, hsm, h⟩)))) id
   ·exact .inl (.inr (.inr (.inr (.inr ⟨t, ht, h'⟩))))
end
end Go.Sx
