/- What is asked of any operation suffices. Conditions: none. -/
import Derived.Test.YtcpkneemhfnanaaGreatSxE
namespace Go.Sx
set_option linter.unusedSimpArgs false
section
variable {P : Program} {H : Ha}
theorem Rel.step {wi wi₀ : World} {n : Nat} {F : List (Nat × LB)} {s : DS} {a : Act} {w w₀ w' w₀' : World} {ρ : Nat → Nat} (hr : Rel wi wi₀ n F s a w w₀ ρ) (hh : A5 w' w₀') (hk : Kept w w₀ w' w₀') : Rel wi wi₀ n F s a w' w₀' ρ :=
 ⟨hr.size, hr.nodef, hh, hr.kept.trans hk, hr.env, fun id lb hl => let ⟨h1, h2, h3⟩ := hr.loc id lb hl; ⟨h1, (hk.same _ h3).trans h2, hk.hid _ h3⟩, hr.inj, hr.disj⟩
theorem lt_of_heap {w : World} {b : Nat} {o : Obj} (h : w.heap[b]? = some o) : b < w.heap.size := by
 rcases Nat.lt_or_ge b w.heap.size with h' | h'
 ·exact h'
 ·rw [Array.getElem?_eq_none h'] at h; cases h
theorem heap_alloc_new (w : World) (o : Obj) : (w.alloc o).heap[w.heap.size]? = some o := by
 show (w.heap.push o)[w.heap.size]? = some o
 simp
theorem heap_alloc_old (w : World) (o : Obj) {b : Nat} (h : b < w.heap.size) : (w.alloc o).heap[b]? = w.heap[b]? := by
 show (w.heap.push o)[b]? = _
 rw [Array.getElem?_push, if_neg (by omega)]
theorem Lx {d : Nat} : ∀ {env : List (Nat × EV)}, K1 d env = true → ∀ t id off, (t, EV.loc id off) ∈ env → id ≠ d
 | [], _, t, id, off, h => by cases h
 | (j, e) :: r, hn, t, id, off, h => by
  have hr : K1 d r = true ∧ ∀ id off, e = .loc id off → id ≠ d := by
   cases e with
   | loc id' off' =>
    simp only [K1] at hn
    cases hb : Nat.beq id' d
    ·rw [hb] at hn
     refine ⟨hn, fun id off he => ?_⟩
     cases he
     intro heq; subst heq; simp at hb
    ·rw [hb] at hn; cases hn
   | val v => exact ⟨hn, fun _ _ he => by cases he⟩
   | lit b => exact ⟨hn, fun _ _ he => by cases he⟩
  cases h with
  | head => exact hr.2 _ _ rfl
  | tail _ h => exact Lx hr.1 t id off h
theorem Jn {d : Nat} : ∀ {F : List (Nat × LB)}, Qi d F = true → get F d = none
 | [], _ => rfl
 | (id, lb) :: r, h => by
  simp only [Qi] at h
  cases hb : Nat.beq id d
  ·rw [hb] at h
   rw [B1]
   have : id ≠ d := fun e => by subst e; simp at hb
   rw [if_neg this]; exact Jn h
  ·rw [hb] at h; cases h
theorem Jo (s : DS) (F : List (Nat × LB)) (d id : Nat) (lb : LB) : getL { s with loc := (d, lb) :: s.loc } F id = if d = id then some lb else getL s F id := by
 simp only [getL, B1]
 by_cases h : d = id
 ·simp [h]
 ·simp [h]
theorem Rel.allocLoc {wi wi₀ : World} {n : Nat} {F : List (Nat × LB)} {s : DS} {a : Act} {w w₀ : World} {ρ : Nat → Nat} (hr : Rel wi wi₀ n F s a w w₀ ρ) (d : Nat) (t : TypeId) (cs : List Value) (hn : K1 d s.env = true) (hF : Qi d F = true) :
  Rel wi wi₀ n F { s with loc := (d, ⟨t, cs⟩) :: s.loc } a (w.alloc hole) (w₀.alloc (.cells cs.toArray t)) (fun i => if i = d then w₀.heap.size else ρ i) := by
 refine ⟨hr.size, hr.nodef, hr.hides.allocHole _, hr.kept.trans (Kept.alloc hr.hides _ _), fun x e he => ?_, fun id lb hl => ?_, fun id id' lb lb' h1 h2 he => ?_, fun id lb hg => ?_⟩
 ·rw [hr.env x e he]
  cases e with
  | val v => rfl
  | lit b => rfl
  | loc id off => simp only [conc, if_neg (Lx hn x id off (get_mem he))]
 ·rw [Jo] at hl
  by_cases h : d = id
  ·subst h
   rw [if_pos rfl] at hl
   simp only [Option.some.injEq] at hl; subst hl
   simp only [if_true]
   refine ⟨?_, heap_alloc_new _ _, ?_⟩
   ·have := hr.kept.size; have := hr.hides.size; omega
   ·rw [← hr.hides.size]; exact heap_alloc_new _ _
  ·rw [if_neg h] at hl
   have hne : ¬ id = d := fun e => h e.symm
   simp only [if_neg hne]
   obtain ⟨h1, h2, h3⟩ := hr.loc id lb hl
   exact ⟨h1, by rw [heap_alloc_old _ _ (lt_of_heap h2)]; exact h2, by rw [heap_alloc_old _ _ (lt_of_heap h3)]; exact h3⟩
 ·rw [Jo] at h1 h2
  have old : ∀ i lb, getL s F i = some lb → ρ i < w₀.heap.size := fun i lb h => lt_of_heap (hr.loc i lb h).2.1
  by_cases e1 : d = id <;> by_cases e2 : d = id'
  ·exact e1.symm.trans e2
  ·rw [if_neg e2] at h2
   have := old _ _ h2
   simp only [if_pos e1.symm, if_neg (fun e => e2 (Eq.symm e))] at he
   omega
  ·rw [if_neg e1] at h1
   have := old _ _ h1
   simp only [if_pos e2.symm, if_neg (fun e => e1 (Eq.symm e))] at he
   omega
  ·rw [if_neg e1] at h1; rw [if_neg e2] at h2
   simp only [if_neg (fun e => e1 (Eq.symm e)), if_neg (fun e => e2 (Eq.symm e))] at he
   exact hr.inj _ _ _ _ h1 h2 he
 ·rw [B1]
  have : d ≠ id := fun e => by subst e; rw [Jn hF] at hg; cases hg
  rw [if_neg this]; exact hr.disj id lb hg
theorem PinE.allocLoc {env : List (Nat × EV)} {d : Nat} (hn : K1 d env = true) (ρ : Nat → Nat) (b : Nat) : PinE env ρ (fun i => if i = d then b else ρ i) :=
 fun t id off h => by simp only [if_neg (Lx hn t id off h)]
theorem Mw : ∀ {l : List Value}, Np l = true → ∀ v ∈ l, v.oneCell' = true
 | [], _, v, h => by cases h
 | u :: r, ha, v, h => by
  simp only [Np] at ha
  cases hb : Lw u
  ·rw [hb] at ha; cases ha
  ·rw [hb] at ha
   cases h with
   | head => cases u <;> simp_all [Lw, Value.oneCell']
   | tail _ h => exact Mw ha v h
theorem Uq {v : Value} (h : Lw v = true) : v.oneCell' = true ∧ v.cells = #[v] := by
 cases v <;> simp_all [Lw, Value.oneCell', Value.cells]
theorem Mx {t : TypeId} {v : Value} {k : List Value → Prop} (h : partsOf P t v k) : ∃ cs, v.cells = cs.toArray ∧ sizeOf P t = some cs.length ∧ (∀ u ∈ cs, u.oneCell' = true) ∧ k cs := by
 unfold partsOf at h
 split at h
 ·split at h
  ·rename_i cs
   split at h
   ·rename_i n hn
    obtain ⟨h1, h⟩ := Ah h
    obtain ⟨h2, h⟩ := Ah h
    refine ⟨cs.toList, by simp [Value.cells], ?_, Mw h2, h⟩
    rw [hn, F8 h1]
   ·exact h.elim
  ·exact h.elim
 ·split at h
  ·rename_i hn
   obtain ⟨h1, h⟩ := Ah h
   obtain ⟨h2, h3⟩ := Uq h1
   exact ⟨[v], h3, by rw [hn]; rfl, fun u hu => by simp at hu; subst hu; exact h2, h⟩
  ·exact h.elim
 ·exact h.elim
theorem Ro : ∀ (l : List Value) (off : Nat) (cs : List Value), off + cs.length ≤ l.length → setL l off cs = l.take off ++ cs ++ l.drop (off + cs.length)
 | [], off, cs, h => by
  have h1 : off = 0 := by simp at h; omega
  have h2 : cs = [] := by simp at h; exact h.2
  subst h1; subst h2; rfl
 | c :: r, 0, [], _ => by simp [setL]
 | c :: r, 0, v :: vs, h => by
  have := Ro r 0 vs (by simp at h ⊢; omega)
  simp only [setL, this]; simp
 | c :: r, n + 1, vs, h => by
  have := Ro r n vs (by simp at h ⊢; omega)
  simp only [setL, this]
  simp [show n + 1 + vs.length = n + vs.length + 1 from by omega]
theorem setRow_other (w : World) (g : Nat) (c : Array Value) (b : Nat) (h : b ≠ g) : (w.setRow g c).heap[b]? = w.heap[b]? := by
 simp only [World.setRow, Array.getElem?_modify]
 rw [if_neg (by omega)]
theorem Kp {t : TypeId} {ad : Addr} {v : Value} {cs : List Value} (hc : v.cells = cs.toArray) (hs : sizeOf P t = some cs.length) (w : World) : (storeVar t ad v).run P w = (storeCells ad cs 0).run P w := by
 unfold storeVar
 simp [Bb hs, hc]
theorem Rel.storeLoc {wi wi₀ : World} {n : Nat} {F : List (Nat × LB)} {s : DS} {a : Act} {w w₀ : World} {ρ : Nat → Nat} (hr : Rel wi wi₀ n F s a w w₀ ρ) {id off : Nat} {lb : LB} {cs : List Value} (hl : get s.loc id = some lb) (hfit : off + cs.length ≤ lb.cells.length) (h1 : ∀ v ∈ cs, v.oneCell' = true) :
  ∃ w₀', (storeCells ⟨ρ id, off, none⟩ cs 0).run P w₀ = .ok () w₀' ∧ Rel wi wi₀ n F { s with loc := (id, ⟨lb.ty, setL lb.cells off cs⟩) :: s.loc } a w w₀' ρ := by
 have hgl : getL s F id = some lb := by unfold getL; rw [hl]
 obtain ⟨hB, hb, hh⟩ := hr.loc id lb hgl
 have hrun := run_storeCells_at P (ρ id) off lb.ty cs 0 lb.cells.toArray w₀ hb (by simpa using hfit) h1
 refine ⟨_, hrun, ?_⟩
 have hother : ∀ b, b ≠ ρ id → (w₀.setRow (ρ id) (lb.cells.toArray.toList.take (off + 0) ++ cs ++ lb.cells.toArray.toList.drop (off + 0 + cs.length)).toArray).heap[b]? = w₀.heap[b]? := fun b hne => setRow_other _ _ _ _ hne
 refine ⟨hr.size, hr.nodef, ⟨hr.hides.os, hr.hides.tape, hr.hides.drawn, hr.hides.output, by simp [World.setRow, hr.hides.size], fun b => ?_⟩, ⟨hr.kept.hid, fun b hbh => ?_, hr.kept.size⟩, hr.env, fun id' lb' hl' => ?_, fun i i' l l' g1 g2 => ?_, fun i l hg => ?_⟩
 ·by_cases hbe : b = ρ id
  ·right; rw [hbe]; exact hh
  ·rw [hother b hbe]; exact hr.hides.block b
 ·have : b ≠ ρ id := by have := lt_of_heap hbh; omega
  rw [hother b this]; exact hr.kept.same b hbh
 ·rw [Jo] at hl'
  by_cases he : id = id'
  ·subst he
   rw [if_pos rfl] at hl'
   simp only [Option.some.injEq] at hl'; subst hl'
   refine ⟨hB, ?_, hh⟩
   have := setRow_heap w₀ (ρ id) lb.cells.toArray (setL lb.cells off cs).toArray lb.ty (0, 0) hb
   rw [Ro _ _ _ hfit] at this ⊢
   simpa using this
  ·rw [if_neg he] at hl'
   obtain ⟨g1, g2, g3⟩ := hr.loc id' lb' hl'
   refine ⟨g1, ?_, g3⟩
   rw [hother _ (fun e => he (hr.inj _ _ _ _ hgl hl' e.symm))]; exact g2
 ·rw [Jo] at g1 g2
  have hx : ∀ i (l : LB), (if id = i then some (⟨lb.ty, setL lb.cells off cs⟩ : LB) else getL s F i) = some l → ∃ l', getL s F i = some l' := by
   intro i l h
   split at h
   ·subst_vars; exact ⟨_, hgl⟩
   ·exact ⟨_, h⟩
  obtain ⟨_, e1⟩ := hx _ _ g1
  obtain ⟨_, e2⟩ := hx _ _ g2
  exact hr.inj _ _ _ _ e1 e2
 ·rw [B1]
  have h0 := hr.disj i l hg
  have : id ≠ i := fun e => by subst e; rw [hl] at h0; cases h0
  rw [if_neg this]; exact h0
theorem K7 : ∀ (cs : List Value) (ad : Addr) (i : Nat) (w w₀ : World), A5 w w₀ → Af w ad i cs → (∀ v ∈ cs, v.oneCell' = true) →
  ∃ w₀', (storeCells ad cs i).run P w₀ = .ok () w₀' ∧ A5 (setCells w ad i cs) w₀' ∧ Kept w w₀ (setCells w ad i cs) w₀'
 | [], _, _, w, w₀, h, _, _ => ⟨w₀, rfl, h, Kept.refl _ _⟩
 | v :: r, ad, i, w, w₀, h, hroom, h1 => by
  obtain ⟨⟨hc, hf⟩, hrest⟩ := hroom
  obtain ⟨u, hu⟩ : ∃ u, w.cell? (ad.add i) = some u := by
   cases hcc : w.cell? (ad.add i) with
   | none => exact absurd hcc hc
   | some u => exact ⟨u, rfl⟩
  obtain ⟨hu₀, hblk⟩ := h.cell hu
  have hf₀ : w₀.frozen? (ad.add i) = false := by rw [h.frozen hblk]; exact hf
  have hst : (store (ad.add i) v).run P w₀ = .ok () (w₀.setCell (ad.add i) v) := by
   rw [run_store P w₀ _ v _ (h1 v (by simp)), hu₀]; simp [hf₀]
  have same : ∀ b, b ≠ (ad.add i).block → ∀ W : World, (W.setCell (ad.add i) v).heap[b]? = W.heap[b]? := fun b hb W => by
   simp only [World.setCell, Array.getElem?_modify]; rw [if_neg (by omega)]
  have hnh : w.heap[(ad.add i).block]? ≠ some hole := fun e => by rw [Jl e] at hu; cases hu
  have hh : A5 (w.setCell (ad.add i) v) (w₀.setCell (ad.add i) v) := by
   refine ⟨h.os, h.tape, h.drawn, h.output, by simp [World.setCell, h.size], fun b => ?_⟩
   by_cases hb : b = (ad.add i).block
   ·left; subst hb
    simp only [World.setCell, Array.getElem?_modify, if_true]
    rw [hblk]
   ·rw [same b hb, same b hb]; exact h.block b
  have hk : Kept w w₀ (w.setCell (ad.add i) v) (w₀.setCell (ad.add i) v) := by
   refine ⟨fun b hb => ?_, fun b hb => ?_, by simp [World.setCell]⟩
   ·have : b ≠ (ad.add i).block := fun e => hnh (e ▸ hb)
    rw [same b this]; exact hb
   ·have : b ≠ (ad.add i).block := fun e => hnh (e ▸ hb)
    rw [same b this]
  have hroom' : ∀ (l : List Value) (j : Nat), Af w ad j l → Af (w.setCell (ad.add i) v) ad j l := by
   intro l
   induction l with
   | nil => intro j _; trivial
   | cons x xs ih =>
    intro j hj
    refine ⟨⟨?_, ?_⟩, ih _ hj.2⟩
    ·intro e
     have hx := hj.1.1
     cases hcc : w.cell? (ad.add j) with
     | none => exact hx hcc
     | some y =>
      by_cases hq : ad.add i = ad.add j
      ·rw [← hq, World.cell?_setCell_same _ _ _ hu] at e; cases e
      ·rw [World.cell?_setCell_other _ _ _ _ hq, hcc] at e; cases e
    ·rw [World.frozen?_setCell]; exact hj.1.2
  obtain ⟨w₀', hrun, hH, hK⟩ := K7 r ad (i + 1) _ _ hh (hroom' r _ hrest) (fun x hx => h1 x (by simp [hx]))
  exact ⟨w₀', by simp only [storeCells, Sem.run_bind, hst, Result.andThen_ok, hrun], hH, hk.trans hK⟩
end
section
variable {P : Program} {H : Ha}
theorem Ek {g : FuncId} (hE : Enters P g) (args : Array Value) (w : World) : (callFunc g args).run P w = .ok (.enter g args) w := by
 obtain ⟨fn, hf, hb, hn⟩ := hE
 simp only [callFunc, Sem.run_bind, run_program, Result.andThen_ok, hf, hn, Bool.false_eq_true, if_false, hb, Sem.run_pure]
theorem Az {o : Oper} {a : Act} {next : Act → World → Prop} {Q : Exit → Act → World → Prop} {r : Result Next} {v : Value} {w : World} (h : r = .ok (.value v) w) (hn : next (a.put o.dst v) w) : o.upon P a next Q r := by
 subst h; exact hn
theorem Ob {F : List (Nat × LB)} {o : Oper} {s : DS} {k : EV → DS → World → Prop} {pn : List PanicEntry → World → Prop} {w w₀ wi wi₀ : World} {n : Nat} {a : Act} {ρ : Nat → Nat} {next : Act → World → Prop} {Q : Exit → Act → World → Prop}
  (h : A1 P H F o s k pn w) (hr : Rel wi wi₀ n F s a w w₀ ρ)
  (hk : ∀ e s' w' ρ' w₀', k e s' w' → s'.env = s.env → PinE s.env ρ ρ' → (V8 o = true ∨ Kept w w₀ w' w₀') → (∀ id lb, get F id = some lb → ρ' id = ρ id) → Rel wi wi₀ n F s' a w' w₀' ρ' → next (a.put o.dst (conc ρ' e)) w₀')
  (hp : ∀ c w' w₀', pn c w' → Rel wi wi₀ n F s a w' w₀' ρ → Q (.panic c) a w₀') : o.wp P a w₀ next Q := by
 have ev : ∀ {x : Operand} {v : Value}, opv s.env x = some v → a.eval x = v := fun h => Hd hr.env h
 by_cases hq : Bi H o = true
 ·obtain ⟨e, he, hrun⟩ := Ip hq h hr
  exact Az (hrun w₀ (.of_heap rfl)) (hk e s w ρ w₀ he rfl (PinE.refl _ _) (.inr (Kept.refl _ _)) (fun _ _ _ => rfl) hr)
 have sem : Ff H o = true → Ey P H o s k w → o.wp P a w₀ next Q := by
  intro hs hd
  unfold Ey at hd
  split at hd
  ·exact hd.elim
  ·rename_i m hm
   have hx := N8 hr.env hm
   split at hd
   ·obtain ⟨v, h1, h2⟩ := He hd
    obtain ⟨e, he, hkk⟩ := Ce (ρ := ρ) h2
    refine Az (v := v) (w := w₀) ?_ (by rw [← he]; exact hk e s w ρ w₀ hkk rfl (PinE.refl _ _) (.inr (Kept.refl _ _)) (fun _ _ _ => rfl) hr)
    rw [hx]; simp only [Sem.run_bind, h1 w₀, Result.andThen_ok, Sem.run_pure]
   ·rw [hs] at hd
    obtain ⟨v, w₀', w', hrun, hH, hK, hd⟩ := hd w₀ hr.hides
    obtain ⟨v', rfl, h2⟩ := He hd
    obtain ⟨e, he, hkk⟩ := Ce (ρ := ρ) h2
    refine Az (v := v) (w := w₀') ?_ (by rw [← he]; exact hk e s w' ρ w₀' hkk rfl (PinE.refl _ _) (.inr hK) (fun _ _ _ => rfl) (hr.step hH hK))
    rw [hx]; simp only [Sem.run_bind, hrun, Result.andThen_ok, Sem.run_pure]
 have sem' : Ey P H o s k w → o.wp P a w₀ next Q := by
  intro hd
  cases hs : Ff H o
  ·obtain ⟨e, he, hrun⟩ := Mv hr.env hs hd
   exact Az (hrun w₀) (hk e s w ρ w₀ he rfl (PinE.refl _ _) (.inr (Kept.refl _ _)) (fun _ _ _ => rfl) hr)
  ·exact sem hs hd
 cases ho : o.op
 case alloc t =>
  simp only [A1, ho] at h
  split at h
  ·exact h.elim
  ·rename_i z hz
   have hx : ∀ w, (execOp a.eval o).run P w = .ok (.value (.pointer (some ⟨w.heap.size, 0, none⟩))) (w.alloc (.cells z.cells t)) := by
    intro w; simp only [execOp, ho, Instr.alloc, Sem.run_bind, Io hz, Result.andThen_ok, newVar, newRow, run_newObj, Sem.run_pure]; rfl
   have hcells : z.cells = (cellsOf z).toArray := by cases z <;> simp [Value.cells, cellsOf]
   split at h
   ·rename_i d hl hd
    obtain ⟨hn, h⟩ := Ah h
    simp only [Bool.and_eq_true] at hn
    have := hk _ _ _ _ _ (h _ (Ag.mk' w hole).grew) rfl (PinE.allocLoc hn.1 _ _) (.inr (Kept.alloc hr.hides _ _)) (fun id lb hg => if_neg (fun e => by subst e; rw [Jn hn.2] at hg; cases hg)) (hr.allocLoc d t (cellsOf z) hn.1 hn.2)
    refine Az (hx w₀) ?_
    rw [hcells]
    simpa [conc] using this
   ·have h := h w.heap.size _ (Ag.mk' w _)
    have hR := hr.step (hr.hides.alloc (.cells (cellsOf z).toArray t)) (Kept.alloc hr.hides (.cells (cellsOf z).toArray t) (.cells (cellsOf z).toArray t))
    have := hk _ _ _ _ _ h rfl (PinE.refl _ _) (.inr (Kept.alloc hr.hides _ _)) (fun _ _ _ => rfl) hR
    refine Az (hx w₀) ?_
    rw [hcells, ← hr.hides.size]
    simpa [conc] using this
 case box t x =>
  simp only [A1, ho] at h
  split at h
  ·exact h.elim
  ·rename_i v hv
   obtain ⟨cs, hcells, -, -, h⟩ := Mx h
   have hx : ∀ w, (execOp a.eval o).run P w = .ok (.value (.pointer (some ⟨w.heap.size, 0, none⟩))) (w.alloc (.cells cs.toArray t)) := by
    intro w; simp only [execOp, ho, ev hv, Instr.box, Sem.run_bind, Result.andThen_ok, newVar, newRow, run_newObj, Sem.run_pure, hcells]; rfl
   split at h
   ·rename_i d hl hd
    obtain ⟨hn, h⟩ := Ah h
    simp only [Bool.and_eq_true] at hn
    have := hk _ _ _ _ _ (h _ (Ag.mk' w hole).grew) rfl (PinE.allocLoc hn.1 _ _) (.inr (Kept.alloc hr.hides _ _)) (fun id lb hg => if_neg (fun e => by subst e; rw [Jn hn.2] at hg; cases hg)) (hr.allocLoc d t cs hn.1 hn.2)
    refine Az (hx w₀) ?_
    simpa [conc] using this
   ·have h := h w.heap.size _ (Ag.mk' w _)
    have hR := hr.step (hr.hides.alloc (.cells cs.toArray t)) (Kept.alloc hr.hides (.cells cs.toArray t) (.cells cs.toArray t))
    have := hk _ _ _ _ _ h rfl (PinE.refl _ _) (.inr (Kept.alloc hr.hides _ _)) (fun _ _ _ => rfl) hR
    refine Az (hx w₀) ?_
    rw [← hr.hides.size]
    simpa [conc] using this
 case store t x y =>
  simp only [A1, ho] at h
  split at h
  ·exact h.elim
  ·rename_i v hv
   obtain ⟨cs, hcells, hsz, h1, h⟩ := Mx h
   have hx : ∀ ad, a.eval x = .pointer (some ad) → ∀ w, (execOp a.eval o).run P w = ((storeCells ad cs 0).run P w).andThen (fun _ w => .ok .skip w) := by
    intro ad he w; simp only [execOp, ho, ev hv, he, Instr.storeAt, Instr.sureAddr, pure_bind, Sem.run_bind, Kp hcells hsz, Sem.run_pure]
   rcases E1 hr.env h with ⟨id, off, he, hp⟩ | ⟨ad, he, hroom, hp⟩
   ·split at hp
    ·rename_i lb hl
     obtain ⟨hg, hp⟩ := Ah hp
     obtain ⟨w₀', hrun, hR⟩ := hr.storeLoc (P := P) hl (Nat.le_of_ble_eq_true hg) h1
     unfold Oper.wp
     rw [hx _ he, hrun]
     exact hk _ _ _ _ _ hp rfl (PinE.refl _ _) (.inl (by simp [V8, ho])) (fun _ _ _ => rfl) hR
    ·exact hp.elim
   ·obtain ⟨w₀', hrun, hH, hK⟩ := K7 (P := P) cs ad 0 w w₀ hr.hides hroom h1
    unfold Oper.wp
    rw [hx _ he, hrun]
    exact hk _ _ _ _ _ (hp _ rfl) rfl (PinE.refl _ _) (.inr hK) (fun _ _ _ => rfl) (hr.step hH hK)
 case buildSlice t len ps =>
  simp only [A1, ho] at h
  split at h
  ·rename_i e hu
   split at h
   ·rename_i sz z vs hs hz hvs
    split at h
    ·rename_i cs hf
     obtain ⟨hg, h⟩ := Ah h
     have hg1 : len * sz ≤ 4096 := Nat.le_of_ble_eq_true hg
     have hx : ∀ w, (execOp a.eval o).run P w = .ok (.value (.slice (some ⟨w.heap.size, 0, none⟩) len len)) (w.alloc (.cells cs e)) := by
      intro w
      have h1 : ¬ len * sz > 2 ^ 24 := by omega
      have hp := Dt (fun p : Nat × Operand => (p.1, a.eval p.2)) ps vs (G1 hr.env hvs)
      have hp' : ps.map (fun (i, x) => (i, a.eval x)) = vs.toArray := hp
      by_cases h2 : len * sz = 0
      ·have hf0 := hf
       have r0 : Array.range 0 = #[] := rfl
       have h3 : ¬ (0 > 2 ^ 24) := by omega
       simp only [h2, r0, Array.map_empty] at hf0
       simp only [execOp, ho, Instr.buildSlice, Sem.run_bind, Aj hu, Result.andThen_ok, Bb hs, Sem.run_pure, hp', h2, if_true, h3, if_false, r0, Array.map_empty, hf0, newRow, run_newObj]
       rfl
      ·simp only [execOp, ho, Instr.buildSlice, Sem.run_bind, Aj hu, Result.andThen_ok, Bb hs, h1, if_false, h2, Io hz, Sem.run_pure, hp', hf, newRow, run_newObj]
       rfl
     have h := h w.heap.size _ (Ag.mk' w _)
     have hR := hr.step (hr.hides.alloc (.cells cs e)) (Kept.alloc hr.hides (.cells cs e) (.cells cs e))
     have := hk _ _ _ _ _ h rfl (PinE.refl _ _) (.inr (Kept.alloc hr.hides _ _)) (fun _ _ _ => rfl) hR
     refine Az (hx w₀) ?_
     rw [← hr.hides.size]
     simpa [conc] using this
    ·exact h.elim
   ·exact h.elim
  ·exact h.elim
 case range t x =>
  simp only [A1, ho] at h
  split at h
  ·rename_i str hu hv
   have hx : ∀ w, (execOp a.eval o).run P w = .ok (.value (.pointer (some ⟨w.heap.size, 0, none⟩))) (w.alloc (.stringIter str 0)) := by
    intro w; simp only [execOp, ho, ev hv, Instr.range, Sem.run_bind, Aj hu, Result.andThen_ok, run_newObj, Sem.run_pure]; rfl
   have h := h w.heap.size _ (Ag.mk' w _)
   have hR := hr.step (hr.hides.alloc (.stringIter str 0)) (Kept.alloc hr.hides (.stringIter str 0) (.stringIter str 0))
   have := hk _ _ _ _ _ h rfl (PinE.refl _ _) (.inr (Kept.alloc hr.hides _ _)) (fun _ _ _ => rfl) hR
   refine Az (hx w₀) ?_
   rw [← hr.hides.size]
   simpa [conc] using this
  ·exact sem' h
 case next x st =>
  cases st with
  | false => simp only [A1, ho] at h; exact sem' h
  | true =>
  simp only [A1, ho] at h
  split at h
  ·rename_i b sp hv
   obtain ⟨str, pos, hb, h1, h2⟩ := h
   have hb₀ : w₀.heap[b]? = some (.stringIter str pos) := hr.hides.at hb (by simp [hole])
   have hlt : b < w.heap.size := by
    rcases Nat.lt_or_ge b w.heap.size with h' | h'
    ·exact h'
    ·rw [Array.getElem?_eq_none h'] at hb; cases hb
   by_cases hp' : pos < str.size
   ·have hx : (execOp a.eval o).run P w₀ = .ok (.value (.tuple #[.bool true, .int .i64 (pos : Int), .int .i32 ((Utf8.decode str pos).1 : Int)])) (Ei w₀ b (.stringIter str (pos + (Utf8.decode str pos).2))) := by
     simp only [execOp, ho, ev hv, Instr.next, pure_bind, Sem.run_bind, getObj, Sem.run, hb₀, Result.andThen_ok, hp', if_true, setObj, goInt, Sem.run_pure]; rfl
    have hH : A5 (Ei w b (.stringIter str (pos + (Utf8.decode str pos).2))) (Ei w₀ b (.stringIter str (pos + (Utf8.decode str pos).2))) := by
     refine ⟨hr.hides.os, hr.hides.tape, hr.hides.drawn, hr.hides.output, by simp [Ei, hr.hides.size], fun c => ?_⟩
     simp only [Ei, Array.getElem?_setIfInBounds, hr.hides.size]
     split
     ·exact .inl rfl
     ·exact hr.hides.block c
    have hK : Kept w w₀ (Ei w b (.stringIter str (pos + (Utf8.decode str pos).2))) (Ei w₀ b (.stringIter str (pos + (Utf8.decode str pos).2))) := by
     have ne : ∀ c : Nat, w.heap[c]? = some hole → ¬ b = c := fun c hc e => by subst e; rw [hb] at hc; simp [hole] at hc
     refine ⟨fun c hc => ?_, fun c hc => ?_, by simp [Ei]⟩
     ·simp only [Ei, Array.getElem?_setIfInBounds, if_neg (ne c hc)]; exact hc
     ·simp only [Ei, Array.getElem?_setIfInBounds, if_neg (ne c hc)]
    refine Az hx ?_
    exact hk _ _ _ _ _ (h1 hp' _ rfl) rfl (PinE.refl _ _) (.inr hK) (fun _ _ _ => rfl) (hr.step hH hK)
   ·have hx : (execOp a.eval o).run P w₀ = .ok (.value (.tuple #[.bool false])) w₀ := by
     simp only [execOp, ho, ev hv, Instr.next, pure_bind, Sem.run_bind, getObj, Sem.run, hb₀, Result.andThen_ok, hp', if_false, Sem.run_pure]
    refine Az hx ?_
    exact hk _ _ _ _ _ (h2 hp') rfl (PinE.refl _ _) (.inr (Kept.refl _ _)) (fun _ _ _ => rfl) hr
  ·exact h.elim
 case mapUpdate t m x y =>
  simp only [A1, ho] at h
  split at h
  ·rename_i u v z hu hv hz
   obtain ⟨_, w₀', w', hrun, hH, hK, h⟩ := h w₀ hr.hides
   unfold Oper.wp
   have hx : (execOp a.eval o).run P w₀ = .ok .skip w₀' := by
    simp only [execOp, ho, ev hu, ev hv, ev hz, Sem.run_bind, hrun, Result.andThen_ok, Sem.run_pure]
   rw [hx]
   exact hk _ _ _ _ _ h rfl (PinE.refl _ _) (.inr hK) (fun _ _ _ => rfl) (hr.step hH hK)
  ·exact h.elim
 case insert t m x y =>
  simp only [A1, ho] at h
  split at h
  ·rename_i u v z hu hv hz
   obtain ⟨_, w₀', w', hrun, hH, hK, h⟩ := h w₀ hr.hides
   unfold Oper.wp
   have hx : (execOp a.eval o).run P w₀ = .ok .skip w₀' := by
    simp only [execOp, ho, ev hu, ev hv, ev hz, Sem.run_bind, hrun, Result.andThen_ok, Sem.run_pure]
   rw [hx]
   exact hk _ _ _ _ _ h rfl (PinE.refl _ _) (.inr hK) (fun _ _ _ => rfl) (hr.step hH hK)
  ·exact h.elim
 case panic x =>
  simp only [A1, ho] at h
  split at h
  ·rename_i t v hv
   unfold Oper.wp
   have hx : (execOp a.eval o).run P w₀ = .halt (.panic (.iface t v)) w₀ := by
    simp only [execOp, ho, ev hv, Instr.panic, Sem.run_bind, run_goPanic, Result.andThen_halt]
   rw [hx]
   exact hp _ _ _ h hr
  ·exact h.elim
 case call c =>
  obtain ⟨callee, args, tys⟩ := c
  simp only [A1, ho] at h
  split at h
  ·exact sem' h
  ·unfold V5 at h
   split at h
   ·exact h.elim
   ·rename_i vs hvs
    split at h
    ·rename_i f hcal
     dsimp only at hcal
     subst hcal
     split at h
     ·rename_i g first captured hf
      have hv := Dt a.eval args vs (F3 hr.env hvs)
      have e1 : (first ++ vs.toArray ++ captured) = (first.toList ++ (vs ++ captured.toList)).toArray := by
       apply Array.ext'; simp
      rcases h with ⟨⟨hE, hc⟩ | hc⟩
      case inr =>
       obtain ⟨nx, w₀', w', hrun, hH, hK, v, rfl, hpost⟩ := hc w₀ hr.hides
       have hx : (execOp a.eval o).run P w₀ = .ok (.value v) w₀' := by
        simp only [execOp, ho, resolve, ev hf, Deferred.ofValue, pure_bind, invoke, hv, e1, hrun]
       obtain ⟨v', rfl, hkk⟩ := He hpost
       exact Az hx (hk _ _ _ _ _ hkk rfl (PinE.refl _ _) (.inr hK) (fun _ _ _ => rfl) (hr.step hH hK))
      have hx : (execOp a.eval o).run P w₀ = .ok (.enter g (first.toList ++ (vs ++ captured.toList)).toArray) w₀ := by
       simp only [execOp, ho, resolve, ev hf, Deferred.ofValue, pure_bind, invoke, hv, e1, Ek hE]
      unfold Oper.wp
      rw [hx]
      refine (hc w₀ hr.hides).mono fun e w₀' ⟨w', hH, hK, hpost⟩ => ?_
      cases e with
      | returned v =>
       obtain ⟨v', rfl, hkk⟩ := He hpost
       exact hk _ _ _ _ _ hkk rfl (PinE.refl _ _) (.inr hK) (fun _ _ _ => rfl) (hr.step hH hK)
      | panicked c => exact hp _ _ _ hpost (hr.step hH hK)
      | outgrown => exact hpost.elim
     ·exact h.elim
    ·exact h.elim
 case binOp op t x y yt =>
  cases hs : Ff H o with
  | true =>
   simp only [A1, ho, hs] at h
   exact sem' h
  | false =>
  have hx : ∀ w, (execOp a.eval o).run P w = ((do eqGuard op t x y (a.eval x) (a.eval y); binOp op t (a.eval x) (a.eval y) : Sem Value).run P w).andThen (fun v w => .ok (.value v) w) := by
   intro w; simp only [execOp, ho, Sem.run_bind, Sem.run_pure]
  have div : ∀ (kd kd' : IntKind) (u v r : Int), (op = .quo ∧ r = kd.wrap (u.tdiv v)) ∨ (op = .rem ∧ r = u.tmod v) → opv s.env x = some (.int kd u) → opv s.env y = some (.int kd' v) →
    Ay (kd == kd') ((v = 0 → pn [{ v := .iface P.rt.errorString (strVal "integer divide by zero"), recovered := false }] w) ∧ (v ≠ 0 → Eh H o (.int kd r) (fun e => k e s w))) → o.wp P a w₀ next Q := by
   intro kd kd' u v r hop hu hv hh
   obtain ⟨hg, h0, h1⟩ := Ah hh
   have hkd : kd = kd' := by revert hg; cases kd <;> cases kd' <;> intro hg <;> first | rfl | cases hg
   subst hkd
   have run0 : (do eqGuard op t x y (.int kd u) (.int kd v); binOp op t (.int kd u) (.int kd v) : Sem Value).run P w₀ = (Op.intDiv op kd u v).run P w₀ := by
    rcases hop with ⟨rfl, _⟩ | ⟨rfl, _⟩ <;> simp [eqGuard, binOp]
   unfold Oper.wp
   rw [hx, ev hu, ev hv, run0]
   by_cases hz : v = 0
   ·subst hz
    simp only [Op.intDiv, if_true, runtimePanic, Sem.run_bind, run_program, Result.andThen_ok, run_goPanic, Result.andThen_halt]
    exact hp _ _ _ (h0 rfl) hr
   ·rcases hop with ⟨rfl, rfl⟩ | ⟨rfl, rfl⟩
    ·simp only [Op.intDiv, hz, if_false, Sem.run_pure, Result.andThen_ok]
     obtain ⟨e, he, hkk⟩ := Ce (ρ := ρ) (h1 hz)
     have := hk _ _ _ _ _ hkk rfl (PinE.refl _ _) (.inr (Kept.refl _ _)) (fun _ _ _ => rfl) hr
     rw [he] at this
     exact this
    ·simp only [Op.intDiv, hz, if_false, Sem.run_pure, Result.andThen_ok]
     obtain ⟨e, he, hkk⟩ := Ce (ρ := ρ) (h1 hz)
     have := hk _ _ _ _ _ hkk rfl (PinE.refl _ _) (.inr (Kept.refl _ _)) (fun _ _ _ => rfl) hr
     rw [he] at this
     exact this
  have hqr : op = .quo ∨ op = .rem := by
   cases op <;> first | exact .inl rfl | exact .inr rfl | (simp [Bi, ho, hs] at hq)
  simp only [A1, ho, hs] at h
  rcases hqr with rfl | rfl
  ·split at h
   ·rename_i hu hv
    exact div _ _ _ _ _ (.inl ⟨rfl, rfl⟩) hu hv h
   all_goals first | contradiction | exact sem' h
  ·split at h
   ·contradiction
   ·rename_i hu hv
    exact div _ _ _ _ _ (.inr ⟨rfl, rfl⟩) hu hv h
   all_goals first | contradiction | exact sem' h
 case index t x i =>
  cases hs : Ff H o
  ·exfalso; simp [Bi, ho, hs] at hq
  ·simp only [A1, ho, hs] at h; exact sem' h
 case unOp op t x =>
  cases op <;> first
   | (simp [Bi, ho] at hq; done)
   | (simp only [A1, ho] at h; exact sem' h)
 all_goals first
  | (simp only [A1, ho] at h; exact sem' h)
  | (simp only [A1, ho] at h; done)
  | (exfalso; simp [Bi, ho] at hq; done)
  | (exfalso; simp only [A1, ho] at h; done)
end
end Go.Sx
