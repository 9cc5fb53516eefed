/- Maps keyed by numbers, as lists of keys and things. Conditions: none. -/
import Derived.Test.YtcpkneemhfnanaaGreatSxX
import Derived.MapKept
import Derived.Carry
import Derived.WideKeyElems
namespace Go.Sx
set_option linter.unusedSimpArgs false
open Go.MapKept
set_option linter.unusedVariables false
section
variable {P : Program} {α : Type}

/-- block b is a map that holds m, in the order of its first stores -/
def MapIs (w : World) (b : Nat) (q : IntKind) (F : α → Value) (m : List (Int × α)) : Prop :=
  ∃ es clock, w.heap[b]? = some (.map es clock) ∧ es.toList.map (fun e => (e.key, e.val)) = m.map (fun p => (Value.int q p.1, F p.2)) ∧ Stamped es clock ∧ (∀ p ∈ m, (Lit.int q p.1).wf = true)

theorem MapIs.lt {w : World} {b : Nat} {q : IntKind} {F : α → Value} {m : List (Int × α)} (h : MapIs w b q F m) : b < w.heap.size := by
  obtain ⟨es, clock, hb, -⟩ := h; exact lt_of_heap hb
theorem MapIs.vis {w : World} {b : Nat} {q : IntKind} {F : α → Value} {m : List (Int × α)} (h : MapIs w b q F m) : w.heap[b]? ≠ some hole := by
  obtain ⟨es, clock, hb, -⟩ := h; rw [hb]; simp [hole]
theorem MapIs.upd {S : Nat → Prop} {w w' : World} {b : Nat} {q : IntKind} {F : α → Value} {m : List (Int × α)} (h : MapIs w b q F m) (hu : Upd S w w') (hn : ¬ S b) : MapIs w' b q F m := by
  have hlt := h.lt
  obtain ⟨es, clock, hb, h2⟩ := h
  exact ⟨es, clock, (hu.block b hlt hn).trans hb, h2⟩
theorem MapIs.grew {w w' : World} {b : Nat} {q : IntKind} {F : α → Value} {m : List (Int × α)} (h : MapIs w b q F m) (hg : Grew w w') : MapIs w' b q F m := h.upd (hg.upd (S := fun _ => False)) (fun h => h)
theorem MapIs.empty {w w' : World} {b : Nat} {q : IntKind} {F : α → Value} (h : Alloc w w' b (.map #[] 0)) : MapIs w' b q F ([] : List (Int × α)) := ⟨#[], 0, h.at_, rfl, stamped_empty 0, by simp⟩
theorem MapIs.nodup {w : World} {b : Nat} {q : IntKind} {F : α → Value} {m : List (Int × α)} (h : MapIs w b q F m) : (m.map (·.1)).Nodup := by
  obtain ⟨es, clock, -, he, hs, -⟩ := h
  have h1 := hs.2.2
  have h2 : es.toList.map (·.key) = (m.map (·.1)).map (Value.int q) := by
    have := congrArg (List.map Prod.fst) he
    simpa [List.map_map, Function.comp_def] using this
  rw [h2] at h1
  exact (List.pairwise_map.1 h1).imp fun hne e => hne (by rw [e])

/-! ### a list of keys and things -/
def getM (m : List (Int × α)) (k : Int) : Option α := (m.find? fun p => p.1 == k).map (·.2)
def setM (m : List (Int × α)) (k : Int) (x : α) : List (Int × α) := if m.any (fun p => p.1 == k) then m.map (fun p => if p.1 == k then (k, x) else p) else m ++ [(k, x)]
def delM (m : List (Int × α)) (k : Int) : List (Int × α) := m.filter fun p => !(p.1 == k)

theorem keys_of {q : IntKind} {F : α → Value} {m : List (Int × α)} {es : List MapEntry} (he : es.map (fun e => (e.key, e.val)) = m.map (fun p => (Value.int q p.1, F p.2))) {j : Nat} : (es[j]?).map (fun e => (e.key, e.val)) = (m[j]?).map (fun p => (Value.int q p.1, F p.2)) := by
  rw [← List.getElem?_map, ← List.getElem?_map, he]
theorem isKeys {q : IntKind} {F : α → Value} {m : List (Int × α)} {es : List MapEntry} (he : es.map (fun e => (e.key, e.val)) = m.map (fun p => (Value.int q p.1, F p.2))) : ∀ x ∈ es, IsKey (.int q) x.key := by
  intro x hx
  obtain ⟨j, hj⟩ := List.getElem?_of_mem hx
  have := keys_of he (j := j)
  rw [hj] at this
  cases hm : m[j]? with
  | none => rw [hm] at this; cases this
  | some p => rw [hm] at this; simp at this; rw [this.1]; simp [IsKey]
/-- what is found -/
theorem find_m {q : IntKind} {F : α → Value} {m : List (Int × α)} {es : List MapEntry} (he : es.map (fun e => (e.key, e.val)) = m.map (fun p => (Value.int q p.1, F p.2))) (hnd : (m.map (·.1)).Nodup) (k : Int) :
    (Instr.findNow (.int q) (.int q k) es 0 = some none ∧ (∀ x ∈ es, x.key ≠ .int q k) ∧ getM m k = none ∧ (∀ p ∈ m, p.1 ≠ k)) ∨
    ∃ j e x, Instr.findNow (.int q) (.int q k) es 0 = some (some (j, e.val)) ∧ es[j]? = some e ∧ e.key = .int q k ∧ m[j]? = some (k, x) ∧ e.val = F x ∧ getM m k = some x ∧ ∀ i p, m[i]? = some p → p.1 = k → i = j := by
  have huniq : ∀ i j : Nat, ∀ p r : Int × α, m[i]? = some p → m[j]? = some r → p.1 = r.1 → i = j := by
    intro i j p r hi hj e
    have hil := (List.getElem?_eq_some_iff.1 hi).1
    have hjl := (List.getElem?_eq_some_iff.1 hj).1
    have h1 := List.pairwise_iff_getElem.1 hnd
    have key : ∀ a b : Nat, ∀ p r : Int × α, m[a]? = some p → m[b]? = some r → a < b → p.1 ≠ r.1 := by
      intro a b p r ha hb hab
      have hal := (List.getElem?_eq_some_iff.1 ha).1
      have hbl := (List.getElem?_eq_some_iff.1 hb).1
      have := h1 a b (by simpa using hal) (by simpa using hbl) hab
      rw [List.getElem?_eq_getElem hal] at ha; rw [List.getElem?_eq_getElem hbl] at hb
      cases ha; cases hb
      simpa using this
    rcases Nat.lt_trichotomy i j with h | h | h
    · exact absurd e (key i j p r hi hj h)
    · exact h
    · exact absurd e.symm (key j i r p hj hi h)
  rcases findNow_spec (d := .int q) (k := .int q k) (by simp [IsKey]) es 0 (isKeys he) with ⟨h1, h2⟩ | ⟨j, e, h1, h2, h3⟩
  · have hno : ∀ p ∈ m, p.1 ≠ k := by
      intro p hp e
      obtain ⟨j, hj⟩ := List.getElem?_of_mem hp
      have := keys_of he (j := j)
      rw [hj] at this
      cases hx : es[j]? with
      | none => rw [hx] at this; cases this
      | some x => rw [hx] at this; simp at this; exact h2 x (List.mem_of_getElem? hx) (by rw [this.1, e])
    refine .inl ⟨h1, h2, ?_, hno⟩
    unfold getM
    rw [List.find?_eq_none.2 (by intro p hp; simpa using hno p hp)]; rfl
  · have := keys_of he (j := j)
    rw [h2] at this
    cases hm : m[j]? with
    | none => rw [hm] at this; cases this
    | some p =>
      rw [hm] at this; simp at this
      have hk : p.1 = k := by have := this.1; rw [h3] at this; cases this; rfl
      refine .inr ⟨j, e, p.2, by rw [h1, Nat.zero_add], h2, h3, by rw [hm, ← hk], this.2, ?_, fun i r hi hr => huniq i j r p hi hm (hr.trans hk.symm)⟩
      unfold getM
      cases hf : m.find? (fun p => p.1 == k) with
      | none => have := List.find?_eq_none.1 hf p (List.mem_of_getElem? hm); simp [hk] at this
      | some r =>
        have hr := List.find?_some hf
        obtain ⟨i, hi⟩ := List.getElem?_of_mem (List.mem_of_find?_eq_some hf)
        have hij := huniq i j r p hi hm (by simp at hr; omega)
        subst hij
        rw [hi] at hm; cases hm; rfl

/-! ### the operations -/
theorem make_map {t : TypeId} {w : World} {k : Value → World → Prop} (hk : ∀ b w', Alloc w w' b (.map #[] 0) → k (.map (some b)) w') : SemW P (Instr.makeMap t none) k w := by
  refine SemW.of_run none (by simp) fun w₀ hw => ⟨.map (some w₀.heap.size), w₀.alloc (.map #[] 0), rfl, World.grownBy_alloc w₀ _ none, fun hg => ?_⟩
  have hn : w.heap[w₀.heap.size]? ≠ some hole := by rw [← hw.size]; simp
  refine hk _ _ ⟨⟨hg.os, hg.tape, hg.output, hg.size, fun b hb => hg.block b hb (by simp)⟩, by rw [hw.size]; exact Nat.le_refl _, ?_⟩
  rw [remask_block hn]
  exact heap_alloc_new w₀ _

theorem map_len {t ty k e : TypeId} {w : World} {b : Nat} {q : IntKind} {F : α → Value} {m : List (Int × α)} {K : Value → World → Prop} (ht : P.underlying t = some (.map k e)) (h : MapIs w b q F m) (hk : K (.int .i64 m.length) w) :
    SemW P (Builtin.len_ #[t] ty #[.map (some b)]) K w := by
  obtain ⟨es, clock, hb, he, -⟩ := h
  intro w₀ hw
  have hb₀ := hw.at hb (by simp [hole])
  have hl : es.size = m.length := by have := congrArg List.length he; simpa using this
  refine ⟨_, w₀, w, ?_, hw, Kept.refl _ _, hk⟩
  simp [Builtin.len_, run_underlying ht, MapKept.run_getObj_map hb₀, Result.andThen, goInt, hl]

theorem map_lookup {t k e : TypeId} {w : World} {b : Nat} {q : IntKind} {F : α → Value} {m : List (Int × α)} {key : Int} {z : Value} {K : Value → World → Prop} (ht : P.underlying t = some (.map k e)) (hkt : P.underlying k = some (.int q)) (hz : ∀ w, (zeroValue e).run P w = .ok z w) (h : MapIs w b q F m)
    (hk : K (match getM m key with | some x => F x | none => z) w) : SemW P (Instr.lookup t (.map (some b)) (.int q key) false) K w := by
  have hnd := h.nodup
  obtain ⟨es, clock, hb, he, -⟩ := h
  intro w₀ hw
  have hb₀ := hw.at hb (by simp [hole])
  rcases find_m he hnd key with ⟨h1, h2, h3, -⟩ | ⟨j, e', x, h1, h2, h3, h4, h5, h6, -⟩
  · rw [h3] at hk
    refine ⟨_, w₀, w, ?_, hw, Kept.refl _ _, hk⟩
    simp [Instr.lookup, run_underlying ht, MapKept.run_getObj_map hb₀, run_checkKey (d := .int q) (k := .int q key) hkt (by simp [IsKey]), run_findKey hkt h1, hz, Result.andThen]
  · rw [h6] at hk
    simp only at hk
    rw [← h5] at hk
    refine ⟨_, w₀, w, ?_, hw, Kept.refl _ _, hk⟩
    simp [Instr.lookup, run_underlying ht, MapKept.run_getObj_map hb₀, run_checkKey (d := .int q) (k := .int q key) hkt (by simp [IsKey]), run_findKey hkt h1, Result.andThen]
theorem map_lookup2 {t k e : TypeId} {w : World} {b : Nat} {q : IntKind} {F : α → Value} {m : List (Int × α)} {key : Int} {z : Value} {K : Value → World → Prop} (ht : P.underlying t = some (.map k e)) (hkt : P.underlying k = some (.int q)) (hz : ∀ w, (zeroValue e).run P w = .ok z w) (h : MapIs w b q F m)
    (hk : K (.tuple (match getM m key with | some x => #[F x, .bool true] | none => #[z, .bool false])) w) : SemW P (Instr.lookup t (.map (some b)) (.int q key) true) K w := by
  have hnd := h.nodup
  obtain ⟨es, clock, hb, he, -⟩ := h
  intro w₀ hw
  have hb₀ := hw.at hb (by simp [hole])
  rcases find_m he hnd key with ⟨h1, h2, h3, -⟩ | ⟨j, e', x, h1, h2, h3, h4, h5, h6, -⟩
  · rw [h3] at hk
    refine ⟨_, w₀, w, ?_, hw, Kept.refl _ _, hk⟩
    simp [Instr.lookup, run_underlying ht, MapKept.run_getObj_map hb₀, run_checkKey (d := .int q) (k := .int q key) hkt (by simp [IsKey]), run_findKey hkt h1, hz, Result.andThen]
  · rw [h6] at hk
    simp only at hk
    rw [← h5] at hk
    refine ⟨_, w₀, w, ?_, hw, Kept.refl _ _, hk⟩
    simp [Instr.lookup, run_underlying ht, MapKept.run_getObj_map hb₀, run_checkKey (d := .int q) (k := .int q key) hkt (by simp [IsKey]), run_findKey hkt h1, Result.andThen]

theorem upd_of_grownBy {w w' : World} {b : Nat} (h : w.grownBy w' (some b)) : Upd (fun x => x = b) w w' := ⟨h.os, h.tape, h.output, h.size, fun k hk hn => h.block k hk (by simpa using hn)⟩
theorem grownBy_setBlock {w : World} {b : Nat} {o : Obj} : w.grownBy { w with heap := w.heap.setIfInBounds b o } (some b) := ⟨rfl, rfl, rfl, by simp, fun k hk hn => by
  simp only [ne_eq, Option.some.injEq] at hn
  rw [Array.getElem?_setIfInBounds_ne (fun e => hn e.symm)]⟩

theorem map_update {t k e : TypeId} {w : World} {b : Nat} {q : IntKind} {F : α → Value} {m : List (Int × α)} {key : Int} {x : α} {K : Unit → World → Prop} (ht : P.underlying t = some (.map k e)) (hkt : P.underlying k = some (.int q)) (h : MapIs w b q F m) (hw : (Lit.int q key).wf = true)
    (hk : ∀ w', MapIs w' b q F (setM m key x) → Upd (fun y => y = b) w w' → K () w') : SemW P (Instr.mapUpdate t (.map (some b)) (.int q key) (F x)) K w := by
  have hnd := h.nodup
  have hvis := h.vis
  obtain ⟨es, clock, hb, he, hs, hwf⟩ := h
  refine SemW.of_run (some b) (fun b' e => by cases e; exact hvis) fun w₀ hw₀ => ?_
  have hb₀ := hw₀.at hb (by simp [hole])
  rcases find_m he hnd key with ⟨h1, h2, h3, h4⟩ | ⟨j, e', x', h1, h2, h3, h4, h5, h6, h7⟩
  · refine ⟨(), { w₀ with heap := w₀.heap.setIfInBounds b (.map (es.push ⟨.int q key, F x, clock⟩) (clock + 1)) }, ?_, grownBy_setBlock, fun hg => hk _ ⟨es.push ⟨.int q key, F x, clock⟩, clock + 1, by rw [remask_block hvis]; exact (heap_set hb₀).1, ?_, stamped_push hs h2, ?_⟩ (upd_of_grownBy hg)⟩
    · simp [Instr.mapUpdate, run_underlying ht, MapKept.run_getObj_map hb₀, run_checkKey (d := .int q) (k := .int q key) hkt (by simp [IsKey]), run_findKey hkt h1, run_setObj_map _ hb₀, Result.andThen]
    · rw [setM, if_neg (by simp; exact fun a hab => h4 _ hab rfl)]
      simp [he]
    · rw [setM, if_neg (by simp; exact fun a hab => h4 _ hab rfl)]
      intro p hp
      rcases List.mem_append.1 hp with hp | hp
      · exact hwf p hp
      · simp at hp; subst hp; exact hw
  · have hj : es[j]? = some e' := by simpa using h2
    have hkeyf : ∀ e'', es[j]? = some e'' → ({ e'' with key := Value.int q key, val := F x } : MapEntry).key = e''.key := fun e'' he'' => by rw [hj] at he''; cases he''; exact h3.symm
    have hany : (m.any fun p => p.1 == key) = true := by simp only [List.any_eq_true]; exact ⟨(key, x'), List.mem_of_getElem? h4, by simp⟩
    refine ⟨(), { w₀ with heap := w₀.heap.setIfInBounds b (.map (es.modify j fun e => { e with key := .int q key, val := F x }) clock) }, ?_, grownBy_setBlock, fun hg => hk _ ⟨es.modify j fun e => { e with key := .int q key, val := F x }, clock, by rw [remask_block hvis]; exact (heap_set hb₀).1, ?_, stamped_modify hs _ _ (fun _ _ => rfl) (fun e'' _ he'' => hkeyf e'' he''), ?_⟩ (upd_of_grownBy hg)⟩
    · simp [Instr.mapUpdate, run_underlying ht, MapKept.run_getObj_map hb₀, run_checkKey (d := .int q) (k := .int q key) hkt (by simp [IsKey]), run_findKey hkt h1, hj, h3, run_keyThatStays (d := .int q) (k := .int q key) (by simp [IsKey]), run_setObj_map _ hb₀, Result.andThen]
    · rw [setM, if_pos hany]
      apply List.ext_getElem?
      intro i
      have hi := keys_of he (j := i)
      simp only [List.getElem?_map, Array.getElem?_toList, Array.getElem?_modify] at hi ⊢
      by_cases hij : j = i
      · subst hij
        rw [hj, h4]; simp
      · rw [if_neg hij]
        rw [hi]
        cases hm : m[i]? with
        | none => simp
        | some p =>
          have hne : ¬ p.1 = key := fun e => hij (h7 i p hm e).symm
          simp [hne]
    · rw [setM, if_pos hany]
      intro p hp
      obtain ⟨r, hr, rfl⟩ := List.mem_map.1 hp
      split
      · exact hw
      · exact hwf r hr

theorem map_eraseIdx' {β γ : Type} (f : β → γ) : ∀ (l : List β) (j : Nat), (l.eraseIdx j).map f = (l.map f).eraseIdx j
  | [], j => by simp
  | a :: l, 0 => by simp
  | a :: l, j + 1 => by simp [map_eraseIdx' f l j]
theorem map_delete {t k e ty : TypeId} {w : World} {b : Nat} {q : IntKind} {F : α → Value} {m : List (Int × α)} {key : Int} {K : Value → World → Prop} (ht : P.underlying t = some (.map k e)) (hkt : P.underlying k = some (.int q)) (h : MapIs w b q F m)
    (hk : ∀ w', MapIs w' b q F (delM m key) → Upd (fun y => y = b) w w' → K (.tuple #[]) w') : SemW P (Builtin.delete_ #[t, k] ty #[.map (some b), .int q key]) K w := by
  have hnd := h.nodup
  have hvis := h.vis
  obtain ⟨es, clock, hb, he, hs, hwf⟩ := h
  refine SemW.of_run (some b) (fun b' e => by cases e; exact hvis) fun w₀ hw₀ => ?_
  have hb₀ := hw₀.at hb (by simp [hole])
  have hwf' : ∀ p ∈ delM m key, (Lit.int q p.1).wf = true := fun p hp => hwf p (List.mem_filter.1 hp).1
  rcases find_m he hnd key with ⟨h1, h2, h3, h4⟩ | ⟨j, e', x', h1, h2, h3, h4, h5, h6, h7⟩
  · refine ⟨_, { w₀ with heap := w₀.heap.setIfInBounds b (.map es clock) }, ?_, grownBy_setBlock, fun hg => hk _ ⟨es, clock, by rw [remask_block hvis]; exact (heap_set hb₀).1, ?_, hs, hwf'⟩ (upd_of_grownBy hg)⟩
    · simp [Builtin.delete_, run_underlying ht, MapKept.run_getObj_map hb₀, run_checkKey (d := .int q) (k := .int q key) hkt (by simp [IsKey]), run_findKey hkt h1, run_setObj_map _ hb₀, Result.andThen]
    · rw [delM, List.filter_eq_self.2 (by intro p hp; simpa using h4 p hp)]; exact he
  · have hjs : j < es.size := by have := (List.getElem?_eq_some_iff.1 h2).1; simpa using this
    have hsub : (es.eraseIdxIfInBounds j).toList = es.toList.eraseIdx j := by
      unfold Array.eraseIdxIfInBounds
      rw [dif_pos hjs]
      simp
    refine ⟨_, { w₀ with heap := w₀.heap.setIfInBounds b (.map (es.eraseIdxIfInBounds j) clock) }, ?_, grownBy_setBlock, fun hg => hk _ ⟨es.eraseIdxIfInBounds j, clock, by rw [remask_block hvis]; exact (heap_set hb₀).1, ?_, stamped_erase hs j, hwf'⟩ (upd_of_grownBy hg)⟩
    · simp [Builtin.delete_, run_underlying ht, MapKept.run_getObj_map hb₀, run_checkKey (d := .int q) (k := .int q key) hkt (by simp [IsKey]), run_findKey hkt h1, run_setObj_map _ hb₀, Result.andThen]
    · rw [hsub, map_eraseIdx', he, ← map_eraseIdx']
      congr 1
      have hp : ∀ (l : List (Int × α)) (j : Nat) (r : Int × α), l[j]? = some r → r.1 = key → (∀ i p, l[i]? = some p → p.1 = key → i = j) → l.eraseIdx j = l.filter fun p => !(p.1 == key) := by
        intro l
        induction l with
        | nil => intro j r h; simp at h
        | cons a l ih =>
          intro j r hj hr hu
          cases j with
          | zero =>
            simp at hj; subst hj
            rw [List.eraseIdx_cons_zero, List.filter_cons, if_neg (by simp [hr])]
            symm
            refine List.filter_eq_self.2 fun p hp => ?_
            obtain ⟨i, hi⟩ := List.getElem?_of_mem hp
            have : ¬ p.1 = key := fun e => by have := hu (i + 1) p (by simpa using hi) e; omega
            simp [this]
          | succ j =>
            have ha : ¬ a.1 = key := fun e => by have := hu 0 a rfl e; omega
            rw [List.eraseIdx_cons_succ, List.filter_cons, if_pos (by simp [ha])]
            congr 1
            exact ih j r (by simpa using hj) hr fun i p hi hp => by have := hu (i + 1) p (by simpa using hi) hp; omega
      exact hp m j _ h4 rfl h7
end
end Go.Sx
