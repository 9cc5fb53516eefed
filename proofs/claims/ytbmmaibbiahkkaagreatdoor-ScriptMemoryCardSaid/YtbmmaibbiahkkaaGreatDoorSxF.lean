/- What is asked of any operation suffices. Conditions: none. -/
import Derived.Test.YtbmmaibbiahkkaaGreatDoorSxE
namespace Go.Sx
set_option linter.unusedSimpArgs false
section
variable {P : Program} {H : Dq}
theorem Rel.step {wi wi₀ : World} {n : Nat} {F : List (Nat × LB)} {s : DS} {a : Act} {w w₀ w' w₀' : World} {ρ : Nat → Nat} (hr : Rel wi wi₀ n F s a w w₀ ρ) (hh : Ae w' w₀') (hk : Kept w w₀ w' w₀') : Rel wi wi₀ n F s a w' w₀' ρ :=
 ⟨hr.size, hr.nodef, hh, hr.kept.trans hk, hr.env, fun id lb hl => let ⟨h1, h2, h3⟩ := hr.loc id lb hl; ⟨h1, (hk.same _ h3).trans h2, hk.hid _ h3⟩, hr.inj, hr.disj⟩
theorem lt_of_heap {w : World} {b : Nat} {o : Obj} (h : w.heap[b]? = some o) : b < w.heap.size := by
 rcases Nat.lt_or_ge b w.heap.size with h' | h'
 ·exact h'
 ·rw [Array.getElem?_eq_none h'] at h; cases h
theorem heap_alloc_new (w : World) (o : Obj) : (w.alloc o).heap[w.heap.size]? = some o := by
 show (w.heap.push o)[w.heap.size]? = some o
 simp
theorem heap_alloc_old (w : World) (o : Obj) {b : Nat} (h : b < w.heap.size) : (w.alloc o).heap[b]? = w.heap[b]? := by
 show (w.heap.push o)[b]? = _
 rw [Array.getElem?_push, if_neg (by omega)]
theorem Gu {d : Nat} : ∀ {env : List (Nat × EV)}, F7 d env = true → ∀ t id off, (t, EV.loc id off) ∈ env → id ≠ d
 | [], _, t, id, off, h => by cases h
 | (j, e) :: r, hn, t, id, off, h => by
  have hr : F7 d r = true ∧ ∀ id off, e = .loc id off → id ≠ d := by
   cases e with
   | loc id' off' =>
    simp only [F7] at hn
    cases hb : Nat.beq id' d
    ·rw [hb] at hn
     refine ⟨hn, fun id off he => ?_⟩
     cases he
     intro heq; subst heq; simp at hb
    ·rw [hb] at hn; cases hn
   | val v => exact ⟨hn, fun _ _ he => by cases he⟩
   | lit b => exact ⟨hn, fun _ _ he => by cases he⟩
  cases h with
  | head => exact hr.2 _ _ rfl
  | tail _ h => exact Gu hr.1 t id off h
theorem Fe {d : Nat} : ∀ {F : List (Nat × LB)}, I7 d F = true → get F d = none
 | [], _ => rfl
 | (id, lb) :: r, h => by
  simp only [I7] at h
  cases hb : Nat.beq id d
  ·rw [hb] at h
   rw [Av]
   have : id ≠ d := fun e => by subst e; simp at hb
   rw [if_neg this]; exact Fe h
  ·rw [hb] at h; cases h
theorem Ff (s : DS) (F : List (Nat × LB)) (d id : Nat) (lb : LB) : getL { s with loc := (d, lb) :: s.loc } F id = if d = id then some lb else getL s F id := by
 simp only [getL, Av]
 by_cases h : d = id
 ·simp [h]
 ·simp [h]
theorem Rel.allocLoc {wi wi₀ : World} {n : Nat} {F : List (Nat × LB)} {s : DS} {a : Act} {w w₀ : World} {ρ : Nat → Nat} (hr : Rel wi wi₀ n F s a w w₀ ρ) (d : Nat) (t : TypeId) (cs : List Value) (hn : F7 d s.env = true) (hF : I7 d F = true) :
  Rel wi wi₀ n F { s with loc := (d, ⟨t, cs⟩) :: s.loc } a (w.alloc hole) (w₀.alloc (.cells cs.toArray t)) (fun i => if i = d then w₀.heap.size else ρ i) := by
 refine ⟨hr.size, hr.nodef, hr.hides.allocHole _, hr.kept.trans (Kept.alloc hr.hides _ _), fun x e he => ?_, fun id lb hl => ?_, fun id id' lb lb' h1 h2 he => ?_, fun id lb hg => ?_⟩
 ·rw [hr.env x e he]
  cases e with
  | val v => rfl
  | lit b => rfl
  | loc id off => simp only [conc, if_neg (Gu hn x id off (get_mem he))]
 ·rw [Ff] at hl
  by_cases h : d = id
  ·subst h
   rw [if_pos rfl] at hl
   simp only [Option.some.injEq] at hl; subst hl
   simp only [if_true]
   refine ⟨?_, heap_alloc_new _ _, ?_⟩
   ·have := hr.kept.size; have := hr.hides.size; omega
   ·rw [← hr.hides.size]; exact heap_alloc_new _ _
  ·rw [if_neg h] at hl
   have hne : ¬ id = d := fun e => h e.symm
   simp only [if_neg hne]
   obtain ⟨h1, h2, h3⟩ := hr.loc id lb hl
   exact ⟨h1, by rw [heap_alloc_old _ _ (lt_of_heap h2)]; exact h2, by rw [heap_alloc_old _ _ (lt_of_heap h3)]; exact h3⟩
 ·rw [Ff] at h1 h2
  have old : ∀ i lb, getL s F i = some lb → ρ i < w₀.heap.size := fun i lb h => lt_of_heap (hr.loc i lb h).2.1
  by_cases e1 : d = id <;> by_cases e2 : d = id'
  ·exact e1.symm.trans e2
  ·rw [if_neg e2] at h2
   have := old _ _ h2
   simp only [if_pos e1.symm, if_neg (fun e => e2 (Eq.symm e))] at he
   omega
  ·rw [if_neg e1] at h1
   have := old _ _ h1
   simp only [if_pos e2.symm, if_neg (fun e => e1 (Eq.symm e))] at he
   omega
  ·rw [if_neg e1] at h1; rw [if_neg e2] at h2
   simp only [if_neg (fun e => e1 (Eq.symm e)), if_neg (fun e => e2 (Eq.symm e))] at he
   exact hr.inj _ _ _ _ h1 h2 he
 ·rw [Av]
  have : d ≠ id := fun e => by subst e; rw [Fe hF] at hg; cases hg
  rw [if_neg this]; exact hr.disj id lb hg
theorem PinE.allocLoc {env : List (Nat × EV)} {d : Nat} (hn : F7 d env = true) (ρ : Nat → Nat) (b : Nat) : PinE env ρ (fun i => if i = d then b else ρ i) :=
 fun t id off h => by simp only [if_neg (Gu hn t id off h)]
theorem G6 : ∀ {l : List Value}, Hj l = true → ∀ v ∈ l, v.oneCell' = true
 | [], _, v, h => by cases h
 | u :: r, ha, v, h => by
  simp only [Hj] at ha
  cases hb : Gt u
  ·rw [hb] at ha; cases ha
  ·rw [hb] at ha
   cases h with
   | head => cases u <;> simp_all [Gt, Value.oneCell']
   | tail _ h => exact G6 ha v h
theorem Lp {v : Value} (h : Gt v = true) : v.oneCell' = true ∧ v.cells = #[v] := by
 cases v <;> simp_all [Gt, Value.oneCell', Value.cells]
theorem G7 {t : TypeId} {v : Value} {k : List Value → Prop} (h : partsOf P t v k) : ∃ cs, v.cells = cs.toArray ∧ sizeOf P t = some cs.length ∧ (∀ u ∈ cs, u.oneCell' = true) ∧ k cs := by
 unfold partsOf at h
 split at h
 ·split at h
  ·rename_i cs
   split at h
   ·rename_i n hn
    obtain ⟨h1, h⟩ := Ab h
    obtain ⟨h2, h⟩ := Ab h
    refine ⟨cs.toList, by simp [Value.cells], ?_, G6 h2, h⟩
    rw [hn, C2 h1]
   ·exact h.elim
  ·exact h.elim
 ·split at h
  ·rename_i hn
   obtain ⟨h1, h⟩ := Ab h
   obtain ⟨h2, h3⟩ := Lp h1
   exact ⟨[v], h3, by rw [hn]; rfl, fun u hu => by simp at hu; subst hu; exact h2, h⟩
  ·exact h.elim
 ·exact h.elim
theorem Jy : ∀ (l : List Value) (off : Nat) (cs : List Value), off + cs.length ≤ l.length → setL l off cs = l.take off ++ cs ++ l.drop (off + cs.length)
 | [], off, cs, h => by
  have h1 : off = 0 := by simp at h; omega
  have h2 : cs = [] := by simp at h; exact h.2
  subst h1; subst h2; rfl
 | c :: r, 0, [], _ => by simp [setL]
 | c :: r, 0, v :: vs, h => by
  have := Jy r 0 vs (by simp at h ⊢; omega)
  simp only [setL, this]; simp
 | c :: r, n + 1, vs, h => by
  have := Jy r n vs (by simp at h ⊢; omega)
  simp only [setL, this]
  simp [show n + 1 + vs.length = n + vs.length + 1 from by omega]
theorem setRow_other (w : World) (g : Nat) (c : Array Value) (b : Nat) (h : b ≠ g) : (w.setRow g c).heap[b]? = w.heap[b]? := by
 simp only [World.setRow, Array.getElem?_modify]
 rw [if_neg (by omega)]
theorem Fw {t : TypeId} {ad : Addr} {v : Value} {cs : List Value} (hc : v.cells = cs.toArray) (hs : sizeOf P t = some cs.length) (w : World) : (storeVar t ad v).run P w = (storeCells ad cs 0).run P w := by
 unfold storeVar
 simp [Aq hs, hc]
theorem Rel.storeLoc {wi wi₀ : World} {n : Nat} {F : List (Nat × LB)} {s : DS} {a : Act} {w w₀ : World} {ρ : Nat → Nat} (hr : Rel wi wi₀ n F s a w w₀ ρ) {id off : Nat} {lb : LB} {cs : List Value} (hl : get s.loc id = some lb) (hfit : off + cs.length ≤ lb.cells.length) (h1 : ∀ v ∈ cs, v.oneCell' = true) :
  ∃ w₀', (storeCells ⟨ρ id, off, none⟩ cs 0).run P w₀ = .ok () w₀' ∧ Rel wi wi₀ n F { s with loc := (id, ⟨lb.ty, setL lb.cells off cs⟩) :: s.loc } a w w₀' ρ := by
 have hgl : getL s F id = some lb := by unfold getL; rw [hl]
 obtain ⟨hB, hb, hh⟩ := hr.loc id lb hgl
 have hrun := run_storeCells_at P (ρ id) off lb.ty cs 0 lb.cells.toArray w₀ hb (by simpa using hfit) h1
 refine ⟨_, hrun, ?_⟩
 have hother : ∀ b, b ≠ ρ id → (w₀.setRow (ρ id) (lb.cells.toArray.toList.take (off + 0) ++ cs ++ lb.cells.toArray.toList.drop (off + 0 + cs.length)).toArray).heap[b]? = w₀.heap[b]? := fun b hne => setRow_other _ _ _ _ hne
 refine ⟨hr.size, hr.nodef, ⟨hr.hides.os, hr.hides.tape, hr.hides.drawn, hr.hides.output, by simp [World.setRow, hr.hides.size], fun b => ?_⟩, ⟨hr.kept.hid, fun b hbh => ?_, hr.kept.size⟩, hr.env, fun id' lb' hl' => ?_, fun i i' l l' g1 g2 => ?_, fun i l hg => ?_⟩
 ·by_cases hbe : b = ρ id
  ·right; rw [hbe]; exact hh
  ·rw [hother b hbe]; exact hr.hides.block b
 ·have : b ≠ ρ id := by have := lt_of_heap hbh; omega
  rw [hother b this]; exact hr.kept.same b hbh
 ·rw [Ff] at hl'
  by_cases he : id = id'
  ·subst he
   rw [if_pos rfl] at hl'
   simp only [Option.some.injEq] at hl'; subst hl'
   refine ⟨hB, ?_, hh⟩
   have := setRow_heap w₀ (ρ id) lb.cells.toArray (setL lb.cells off cs).toArray lb.ty (0, 0) hb
   rw [Jy _ _ _ hfit] at this ⊢
   simpa using this
  ·rw [if_neg he] at hl'
   obtain ⟨g1, g2, g3⟩ := hr.loc id' lb' hl'
   refine ⟨g1, ?_, g3⟩
   rw [hother _ (fun e => he (hr.inj _ _ _ _ hgl hl' e.symm))]; exact g2
 ·rw [Ff] at g1 g2
  have hx : ∀ i (l : LB), (if id = i then some (⟨lb.ty, setL lb.cells off cs⟩ : LB) else getL s F i) = some l → ∃ l', getL s F i = some l' := by
   intro i l h
   split at h
   ·subst_vars; exact ⟨_, hgl⟩
   ·exact ⟨_, h⟩
  obtain ⟨_, e1⟩ := hx _ _ g1
  obtain ⟨_, e2⟩ := hx _ _ g2
  exact hr.inj _ _ _ _ e1 e2
 ·rw [Av]
  have h0 := hr.disj i l hg
  have : id ≠ i := fun e => by subst e; rw [hl] at h0; cases h0
  rw [if_neg this]; exact h0
theorem Gc : ∀ (cs : List Value) (ad : Addr) (i : Nat) (w w₀ : World), Ae w w₀ → An w ad i cs → (∀ v ∈ cs, v.oneCell' = true) →
  ∃ w₀', (storeCells ad cs i).run P w₀ = .ok () w₀' ∧ Ae (setCells w ad i cs) w₀' ∧ Kept w w₀ (setCells w ad i cs) w₀'
 | [], _, _, w, w₀, h, _, _ => ⟨w₀, rfl, h, Kept.refl _ _⟩
 | v :: r, ad, i, w, w₀, h, hroom, h1 => by
  obtain ⟨⟨hc, hf⟩, hrest⟩ := hroom
  obtain ⟨u, hu⟩ : ∃ u, w.cell? (ad.add i) = some u := by
   cases hcc : w.cell? (ad.add i) with
   | none => exact absurd hcc hc
   | some u => exact ⟨u, rfl⟩
  obtain ⟨hu₀, hblk⟩ := h.cell hu
  have hf₀ : w₀.frozen? (ad.add i) = false := by rw [h.frozen hblk]; exact hf
  have hst : (store (ad.add i) v).run P w₀ = .ok () (w₀.setCell (ad.add i) v) := by
   rw [run_store P w₀ _ v _ (h1 v (by simp)), hu₀]; simp [hf₀]
  have same : ∀ b, b ≠ (ad.add i).block → ∀ W : World, (W.setCell (ad.add i) v).heap[b]? = W.heap[b]? := fun b hb W => by
   simp only [World.setCell, Array.getElem?_modify]; rw [if_neg (by omega)]
  have hnh : w.heap[(ad.add i).block]? ≠ some hole := fun e => by rw [Fb e] at hu; cases hu
  have hh : Ae (w.setCell (ad.add i) v) (w₀.setCell (ad.add i) v) := by
   refine ⟨h.os, h.tape, h.drawn, h.output, by simp [World.setCell, h.size], fun b => ?_⟩
   by_cases hb : b = (ad.add i).block
   ·left; subst hb
    simp only [World.setCell, Array.getElem?_modify, if_true]
    rw [hblk]
   ·rw [same b hb, same b hb]; exact h.block b
  have hk : Kept w w₀ (w.setCell (ad.add i) v) (w₀.setCell (ad.add i) v) := by
   refine ⟨fun b hb => ?_, fun b hb => ?_, by simp [World.setCell]⟩
   ·have : b ≠ (ad.add i).block := fun e => hnh (e ▸ hb)
    rw [same b this]; exact hb
   ·have : b ≠ (ad.add i).block := fun e => hnh (e ▸ hb)
    rw [same b this]
  have hroom' : ∀ (l : List Value) (j : Nat), An w ad j l → An (w.setCell (ad.add i) v) ad j l := by
   intro l
   induction l with
   | nil => intro j _; trivial
   | cons x xs ih =>
    intro j hj
    refine ⟨⟨?_, ?_⟩, ih _ hj.2⟩
    ·intro e
     have hx := hj.1.1
     cases hcc : w.cell? (ad.add j) with
     | none => exact hx hcc
     | some y =>
      by_cases hq : ad.add i = ad.add j
      ·rw [← hq, World.cell?_setCell_same _ _ _ hu] at e; cases e
      ·rw [World.cell?_setCell_other _ _ _ _ hq, hcc] at e; cases e
    ·rw [World.frozen?_setCell]; exact hj.1.2
  obtain ⟨w₀', hrun, hH, hK⟩ := Gc r ad (i + 1) _ _ hh (hroom' r _ hrest) (fun x hx => h1 x (by simp [hx]))
  exact ⟨w₀', by simp only [storeCells, Sem.run_bind, hst, Result.andThen_ok, hrun], hH, hk.trans hK⟩
end
end Go.Sx
