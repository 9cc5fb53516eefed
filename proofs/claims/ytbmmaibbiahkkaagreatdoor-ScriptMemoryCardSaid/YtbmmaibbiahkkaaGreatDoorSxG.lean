/- Operations, regions. Conditions: none. -/
import Derived.Test.YtbmmaibbiahkkaaGreatDoorSxF
namespace Go.Sx
set_option linter.unusedSimpArgs false
section
variable {P : Program} {H : Dq}
theorem Bs {g : FuncId} (hE : Enters P g) (args : Array Value) (w : World) : (callFunc g args).run P w = .ok (.enter g args) w := by
 obtain ⟨fn, hf, hb, hn⟩ := hE
 simp only [callFunc, Sem.run_bind, run_program, Result.andThen_ok, hf, hn, Bool.false_eq_true, if_false, hb, Sem.run_pure]
theorem Ak {o : Oper} {a : Act} {next : Act → World → Prop} {Q : Exit → Act → World → Prop} {r : Result Next} {v : Value} {w : World} (h : r = .ok (.value v) w) (hn : next (a.put o.dst v) w) : o.upon P a next Q r := by
 subst h; exact hn
theorem H2 {F : List (Nat × LB)} {o : Oper} {s : DS} {k : EV → DS → World → Prop} {pn : List PanicEntry → World → Prop} {w w₀ wi wi₀ : World} {n : Nat} {a : Act} {ρ : Nat → Nat} {next : Act → World → Prop} {Q : Exit → Act → World → Prop}
  (h : Al P H F o s k pn w) (hr : Rel wi wi₀ n F s a w w₀ ρ)
  (hk : ∀ e s' w' ρ' w₀', k e s' w' → s'.env = s.env → PinE s.env ρ ρ' → (Mk o = true ∨ Kept w w₀ w' w₀') → (∀ id lb, get F id = some lb → ρ' id = ρ id) → Rel wi wi₀ n F s' a w' w₀' ρ' → next (a.put o.dst (conc ρ' e)) w₀')
  (hp : ∀ c w' w₀', pn c w' → Rel wi wi₀ n F s a w' w₀' ρ → Q (.panic c) a w₀') : o.wp P a w₀ next Q := by
 have ev : ∀ {x : Operand} {v : Value}, opv s.env x = some v → a.eval x = v := fun h => Dt hr.env h
 by_cases hq : As H o = true
 ·obtain ⟨e, he, hrun⟩ := Es hq h hr
  exact Ak (hrun w₀ (.of_heap rfl)) (hk e s w ρ w₀ he rfl (PinE.refl _ _) (.inr (Kept.refl _ _)) (fun _ _ _ => rfl) hr)
 have sem : Cg H o = true → Ca P H o s k w → o.wp P a w₀ next Q := by
  intro hs hd
  unfold Ca at hd
  split at hd
  ·exact hd.elim
  ·rename_i m hm
   have hx := Hw hr.env hm
   split at hd
   ·obtain ⟨v, h1, h2⟩ := Du hd
    obtain ⟨e, he, hkk⟩ := A4 (ρ := ρ) h2
    refine Ak (v := v) (w := w₀) ?_ (by rw [← he]; exact hk e s w ρ w₀ hkk rfl (PinE.refl _ _) (.inr (Kept.refl _ _)) (fun _ _ _ => rfl) hr)
    rw [hx]; simp only [Sem.run_bind, h1 w₀, Result.andThen_ok, Sem.run_pure]
   ·rw [hs] at hd
    obtain ⟨v, w₀', w', hrun, hH, hK, hd⟩ := hd w₀ hr.hides
    obtain ⟨v', rfl, h2⟩ := Du hd
    obtain ⟨e, he, hkk⟩ := A4 (ρ := ρ) h2
    refine Ak (v := v) (w := w₀') ?_ (by rw [← he]; exact hk e s w' ρ w₀' hkk rfl (PinE.refl _ _) (.inr hK) (fun _ _ _ => rfl) (hr.step hH hK))
    rw [hx]; simp only [Sem.run_bind, hrun, Result.andThen_ok, Sem.run_pure]
 have sem' : Ca P H o s k w → o.wp P a w₀ next Q := by
  intro hd
  cases hs : Cg H o
  ·obtain ⟨e, he, hrun⟩ := G5 hr.env hs hd
   exact Ak (hrun w₀) (hk e s w ρ w₀ he rfl (PinE.refl _ _) (.inr (Kept.refl _ _)) (fun _ _ _ => rfl) hr)
  ·exact sem hs hd
 cases ho : o.op
 case alloc t =>
  simp only [Al, ho] at h
  split at h
  ·exact h.elim
  ·rename_i z hz
   have hx : ∀ w, (execOp a.eval o).run P w = .ok (.value (.pointer (some ⟨w.heap.size, 0, none⟩))) (w.alloc (.cells z.cells t)) := by
    intro w; simp only [execOp, ho, Instr.alloc, Sem.run_bind, Er hz, Result.andThen_ok, newVar, newRow, run_newObj, Sem.run_pure]; rfl
   have hcells : z.cells = (cellsOf z).toArray := by cases z <;> simp [Value.cells, cellsOf]
   split at h
   ·rename_i d hl hd
    obtain ⟨hn, h⟩ := Ab h
    simp only [Bool.and_eq_true] at hn
    have := hk _ _ _ _ _ (h _ (Ar.mk' w hole).grew) rfl (PinE.allocLoc hn.1 _ _) (.inr (Kept.alloc hr.hides _ _)) (fun id lb hg => if_neg (fun e => by subst e; rw [Fe hn.2] at hg; cases hg)) (hr.allocLoc d t (cellsOf z) hn.1 hn.2)
    refine Ak (hx w₀) ?_
    rw [hcells]
    simpa [conc] using this
   ·have h := h w.heap.size _ (Ar.mk' w _)
    have hR := hr.step (hr.hides.alloc (.cells (cellsOf z).toArray t)) (Kept.alloc hr.hides (.cells (cellsOf z).toArray t) (.cells (cellsOf z).toArray t))
    have := hk _ _ _ _ _ h rfl (PinE.refl _ _) (.inr (Kept.alloc hr.hides _ _)) (fun _ _ _ => rfl) hR
    refine Ak (hx w₀) ?_
    rw [hcells, ← hr.hides.size]
    simpa [conc] using this
 case box t x =>
  simp only [Al, ho] at h
  split at h
  ·exact h.elim
  ·rename_i v hv
   obtain ⟨cs, hcells, -, -, h⟩ := G7 h
   have hx : ∀ w, (execOp a.eval o).run P w = .ok (.value (.pointer (some ⟨w.heap.size, 0, none⟩))) (w.alloc (.cells cs.toArray t)) := by
    intro w; simp only [execOp, ho, ev hv, Instr.box, Sem.run_bind, Result.andThen_ok, newVar, newRow, run_newObj, Sem.run_pure, hcells]; rfl
   split at h
   ·rename_i d hl hd
    obtain ⟨hn, h⟩ := Ab h
    simp only [Bool.and_eq_true] at hn
    have := hk _ _ _ _ _ (h _ (Ar.mk' w hole).grew) rfl (PinE.allocLoc hn.1 _ _) (.inr (Kept.alloc hr.hides _ _)) (fun id lb hg => if_neg (fun e => by subst e; rw [Fe hn.2] at hg; cases hg)) (hr.allocLoc d t cs hn.1 hn.2)
    refine Ak (hx w₀) ?_
    simpa [conc] using this
   ·have h := h w.heap.size _ (Ar.mk' w _)
    have hR := hr.step (hr.hides.alloc (.cells cs.toArray t)) (Kept.alloc hr.hides (.cells cs.toArray t) (.cells cs.toArray t))
    have := hk _ _ _ _ _ h rfl (PinE.refl _ _) (.inr (Kept.alloc hr.hides _ _)) (fun _ _ _ => rfl) hR
    refine Ak (hx w₀) ?_
    rw [← hr.hides.size]
    simpa [conc] using this
 case store t x y =>
  simp only [Al, ho] at h
  split at h
  ·exact h.elim
  ·rename_i v hv
   obtain ⟨cs, hcells, hsz, h1, h⟩ := G7 h
   have hx : ∀ ad, a.eval x = .pointer (some ad) → ∀ w, (execOp a.eval o).run P w = ((storeCells ad cs 0).run P w).andThen (fun _ w => .ok .skip w) := by
    intro ad he w; simp only [execOp, ho, ev hv, he, Instr.storeAt, Instr.sureAddr, pure_bind, Sem.run_bind, Fw hcells hsz, Sem.run_pure]
   rcases Cc hr.env h with ⟨id, off, he, hp⟩ | ⟨ad, he, hroom, hp⟩
   ·split at hp
    ·rename_i lb hl
     obtain ⟨hg, hp⟩ := Ab hp
     obtain ⟨w₀', hrun, hR⟩ := hr.storeLoc (P := P) hl (Nat.le_of_ble_eq_true hg) h1
     unfold Oper.wp
     rw [hx _ he, hrun]
     exact hk _ _ _ _ _ hp rfl (PinE.refl _ _) (.inl (by simp [Mk, ho])) (fun _ _ _ => rfl) hR
    ·exact hp.elim
   ·obtain ⟨w₀', hrun, hH, hK⟩ := Gc (P := P) cs ad 0 w w₀ hr.hides hroom h1
    unfold Oper.wp
    rw [hx _ he, hrun]
    exact hk _ _ _ _ _ (hp _ rfl) rfl (PinE.refl _ _) (.inr hK) (fun _ _ _ => rfl) (hr.step hH hK)
 case buildSlice t len ps =>
  simp only [Al, ho] at h
  split at h
  ·rename_i e hu
   split at h
   ·rename_i sz z vs hs hz hvs
    split at h
    ·rename_i cs hf
     obtain ⟨hg, h⟩ := Ab h
     have hg1 : len * sz ≤ 4096 := Nat.le_of_ble_eq_true hg
     have hx : ∀ w, (execOp a.eval o).run P w = .ok (.value (.slice (some ⟨w.heap.size, 0, none⟩) len len)) (w.alloc (.cells cs e)) := by
      intro w
      have h1 : ¬ len * sz > 2 ^ 24 := by omega
      have hp := Br (fun p : Nat × Operand => (p.1, a.eval p.2)) ps vs (Dk hr.env hvs)
      have hp' : ps.map (fun (i, x) => (i, a.eval x)) = vs.toArray := hp
      by_cases h2 : len * sz = 0
      ·have hf0 := hf
       have r0 : Array.range 0 = #[] := rfl
       have h3 : ¬ (0 > 2 ^ 24) := by omega
       simp only [h2, r0, Array.map_empty] at hf0
       simp only [execOp, ho, Instr.buildSlice, Sem.run_bind, Ad hu, Result.andThen_ok, Aq hs, Sem.run_pure, hp', h2, if_true, h3, if_false, r0, Array.map_empty, hf0, newRow, run_newObj]
       rfl
      ·simp only [execOp, ho, Instr.buildSlice, Sem.run_bind, Ad hu, Result.andThen_ok, Aq hs, h1, if_false, h2, Er hz, Sem.run_pure, hp', hf, newRow, run_newObj]
       rfl
     have h := h w.heap.size _ (Ar.mk' w _)
     have hR := hr.step (hr.hides.alloc (.cells cs e)) (Kept.alloc hr.hides (.cells cs e) (.cells cs e))
     have := hk _ _ _ _ _ h rfl (PinE.refl _ _) (.inr (Kept.alloc hr.hides _ _)) (fun _ _ _ => rfl) hR
     refine Ak (hx w₀) ?_
     rw [← hr.hides.size]
     simpa [conc] using this
    ·exact h.elim
   ·exact h.elim
  ·exact h.elim
 case range t x =>
  simp only [Al, ho] at h
  split at h
  ·rename_i str hu hv
   have hx : ∀ w, (execOp a.eval o).run P w = .ok (.value (.pointer (some ⟨w.heap.size, 0, none⟩))) (w.alloc (.stringIter str 0)) := by
    intro w; simp only [execOp, ho, ev hv, Instr.range, Sem.run_bind, Ad hu, Result.andThen_ok, run_newObj, Sem.run_pure]; rfl
   have h := h w.heap.size _ (Ar.mk' w _)
   have hR := hr.step (hr.hides.alloc (.stringIter str 0)) (Kept.alloc hr.hides (.stringIter str 0) (.stringIter str 0))
   have := hk _ _ _ _ _ h rfl (PinE.refl _ _) (.inr (Kept.alloc hr.hides _ _)) (fun _ _ _ => rfl) hR
   refine Ak (hx w₀) ?_
   rw [← hr.hides.size]
   simpa [conc] using this
  ·exact sem' h
 case next x st =>
  cases st with
  | false => simp only [Al, ho] at h; exact sem' h
  | true =>
  simp only [Al, ho] at h
  split at h
  ·rename_i b sp hv
   obtain ⟨str, pos, hb, h1, h2⟩ := h
   have hb₀ : w₀.heap[b]? = some (.stringIter str pos) := hr.hides.at hb (by simp [hole])
   have hlt : b < w.heap.size := by
    rcases Nat.lt_or_ge b w.heap.size with h' | h'
    ·exact h'
    ·rw [Array.getElem?_eq_none h'] at hb; cases hb
   by_cases hp' : pos < str.size
   ·have hx : (execOp a.eval o).run P w₀ = .ok (.value (.tuple #[.bool true, .int .i64 (pos : Int), .int .i32 ((Utf8.decode str pos).1 : Int)])) (Au w₀ b (.stringIter str (pos + (Utf8.decode str pos).2))) := by
     simp only [execOp, ho, ev hv, Instr.next, pure_bind, Sem.run_bind, getObj, Sem.run, hb₀, Result.andThen_ok, hp', if_true, setObj, goInt, Sem.run_pure]; rfl
    have hH : Ae (Au w b (.stringIter str (pos + (Utf8.decode str pos).2))) (Au w₀ b (.stringIter str (pos + (Utf8.decode str pos).2))) := by
     refine ⟨hr.hides.os, hr.hides.tape, hr.hides.drawn, hr.hides.output, by simp [Au, hr.hides.size], fun c => ?_⟩
     simp only [Au, Array.getElem?_setIfInBounds, hr.hides.size]
     split
     ·exact .inl rfl
     ·exact hr.hides.block c
    have hK : Kept w w₀ (Au w b (.stringIter str (pos + (Utf8.decode str pos).2))) (Au w₀ b (.stringIter str (pos + (Utf8.decode str pos).2))) := by
     have ne : ∀ c : Nat, w.heap[c]? = some hole → ¬ b = c := fun c hc e => by subst e; rw [hb] at hc; simp [hole] at hc
     refine ⟨fun c hc => ?_, fun c hc => ?_, by simp [Au]⟩
     ·simp only [Au, Array.getElem?_setIfInBounds, if_neg (ne c hc)]; exact hc
     ·simp only [Au, Array.getElem?_setIfInBounds, if_neg (ne c hc)]
    refine Ak hx ?_
    exact hk _ _ _ _ _ (h1 hp' _ rfl) rfl (PinE.refl _ _) (.inr hK) (fun _ _ _ => rfl) (hr.step hH hK)
   ·have hx : (execOp a.eval o).run P w₀ = .ok (.value (.tuple #[.bool false])) w₀ := by
     simp only [execOp, ho, ev hv, Instr.next, pure_bind, Sem.run_bind, getObj, Sem.run, hb₀, Result.andThen_ok, hp', if_false, Sem.run_pure]
    refine Ak hx ?_
    exact hk _ _ _ _ _ (h2 hp') rfl (PinE.refl _ _) (.inr (Kept.refl _ _)) (fun _ _ _ => rfl) hr
  ·exact h.elim
 case mapUpdate t m x y =>
  simp only [Al, ho] at h
  split at h
  ·rename_i u v z hu hv hz
   obtain ⟨_, w₀', w', hrun, hH, hK, h⟩ := h w₀ hr.hides
   unfold Oper.wp
   have hx : (execOp a.eval o).run P w₀ = .ok .skip w₀' := by
    simp only [execOp, ho, ev hu, ev hv, ev hz, Sem.run_bind, hrun, Result.andThen_ok, Sem.run_pure]
   rw [hx]
   exact hk _ _ _ _ _ h rfl (PinE.refl _ _) (.inr hK) (fun _ _ _ => rfl) (hr.step hH hK)
  ·exact h.elim
 case insert t m x y =>
  simp only [Al, ho] at h
  split at h
  ·rename_i u v z hu hv hz
   obtain ⟨_, w₀', w', hrun, hH, hK, h⟩ := h w₀ hr.hides
   unfold Oper.wp
   have hx : (execOp a.eval o).run P w₀ = .ok .skip w₀' := by
    simp only [execOp, ho, ev hu, ev hv, ev hz, Sem.run_bind, hrun, Result.andThen_ok, Sem.run_pure]
   rw [hx]
   exact hk _ _ _ _ _ h rfl (PinE.refl _ _) (.inr hK) (fun _ _ _ => rfl) (hr.step hH hK)
  ·exact h.elim
 case panic x =>
  simp only [Al, ho] at h
  split at h
  ·rename_i t v hv
   unfold Oper.wp
   have hx : (execOp a.eval o).run P w₀ = .halt (.panic (.iface t v)) w₀ := by
    simp only [execOp, ho, ev hv, Instr.panic, Sem.run_bind, run_goPanic, Result.andThen_halt]
   rw [hx]
   exact hp _ _ _ h hr
  ·exact h.elim
 case call c =>
  obtain ⟨callee, args, tys⟩ := c
  simp only [Al, ho] at h
  split at h
  ·exact sem' h
  ·unfold Mh at h
   split at h
   ·exact h.elim
   ·rename_i vs hvs
    split at h
    ·rename_i f hcal
     dsimp only at hcal
     subst hcal
     split at h
     ·rename_i g first captured hf
      have hv := Br a.eval args vs (Cy hr.env hvs)
      have e1 : (first ++ vs.toArray ++ captured) = (first.toList ++ (vs ++ captured.toList)).toArray := by
       apply Array.ext'; simp
      rcases h with ⟨⟨hE, hc⟩ | hc⟩
      case inr =>
       obtain ⟨nx, w₀', w', hrun, hH, hK, v, rfl, hpost⟩ := hc w₀ hr.hides
       have hx : (execOp a.eval o).run P w₀ = .ok (.value v) w₀' := by
        simp only [execOp, ho, resolve, ev hf, Deferred.ofValue, pure_bind, invoke, hv, e1, hrun]
       obtain ⟨v', rfl, hkk⟩ := Du hpost
       exact Ak hx (hk _ _ _ _ _ hkk rfl (PinE.refl _ _) (.inr hK) (fun _ _ _ => rfl) (hr.step hH hK))
      have hx : (execOp a.eval o).run P w₀ = .ok (.enter g (first.toList ++ (vs ++ captured.toList)).toArray) w₀ := by
       simp only [execOp, ho, resolve, ev hf, Deferred.ofValue, pure_bind, invoke, hv, e1, Bs hE]
      unfold Oper.wp
      rw [hx]
      refine (hc w₀ hr.hides).mono fun e w₀' ⟨w', hH, hK, hpost⟩ => ?_
      cases e with
      | returned v =>
       obtain ⟨v', rfl, hkk⟩ := Du hpost
       exact hk _ _ _ _ _ hkk rfl (PinE.refl _ _) (.inr hK) (fun _ _ _ => rfl) (hr.step hH hK)
      | panicked c => exact hp _ _ _ hpost (hr.step hH hK)
      | outgrown => exact hpost.elim
     ·exact h.elim
    ·exact h.elim
 case binOp op t x y yt =>
  cases hs : Cg H o with
  | true =>
   simp only [Al, ho, hs] at h
   exact sem' h
  | false =>
  have hx : ∀ w, (execOp a.eval o).run P w = ((do eqGuard op t x y (a.eval x) (a.eval y); binOp op t (a.eval x) (a.eval y) : Sem Value).run P w).andThen (fun v w => .ok (.value v) w) := by
   intro w; simp only [execOp, ho, Sem.run_bind, Sem.run_pure]
  have div : ∀ (kd kd' : IntKind) (u v r : Int), (op = .quo ∧ r = kd.wrap (u.tdiv v)) ∨ (op = .rem ∧ r = u.tmod v) → opv s.env x = some (.int kd u) → opv s.env y = some (.int kd' v) →
    Aj (kd == kd') ((v = 0 → pn [{ v := .iface P.rt.errorString (strVal "integer divide by zero"), recovered := false }] w) ∧ (v ≠ 0 → B4 H o (.int kd r) (fun e => k e s w))) → o.wp P a w₀ next Q := by
   intro kd kd' u v r hop hu hv hh
   obtain ⟨hg, h0, h1⟩ := Ab hh
   have hkd : kd = kd' := by revert hg; cases kd <;> cases kd' <;> intro hg <;> first | rfl | cases hg
   subst hkd
   have run0 : (do eqGuard op t x y (.int kd u) (.int kd v); binOp op t (.int kd u) (.int kd v) : Sem Value).run P w₀ = (Op.intDiv op kd u v).run P w₀ := by
    rcases hop with ⟨rfl, _⟩ | ⟨rfl, _⟩ <;> simp [eqGuard, binOp]
   unfold Oper.wp
   rw [hx, ev hu, ev hv, run0]
   by_cases hz : v = 0
   ·subst hz
    simp only [Op.intDiv, if_true, runtimePanic, Sem.run_bind, run_program, Result.andThen_ok, run_goPanic, Result.andThen_halt]
    exact hp _ _ _ (h0 rfl) hr
   ·rcases hop with ⟨rfl, rfl⟩ | ⟨rfl, rfl⟩
    ·simp only [Op.intDiv, hz, if_false, Sem.run_pure, Result.andThen_ok]
     obtain ⟨e, he, hkk⟩ := A4 (ρ := ρ) (h1 hz)
     have := hk _ _ _ _ _ hkk rfl (PinE.refl _ _) (.inr (Kept.refl _ _)) (fun _ _ _ => rfl) hr
     rw [he] at this
     exact this
    ·simp only [Op.intDiv, hz, if_false, Sem.run_pure, Result.andThen_ok]
     obtain ⟨e, he, hkk⟩ := A4 (ρ := ρ) (h1 hz)
     have := hk _ _ _ _ _ hkk rfl (PinE.refl _ _) (.inr (Kept.refl _ _)) (fun _ _ _ => rfl) hr
     rw [he] at this
     exact this
  have hqr : op = .quo ∨ op = .rem := by
   cases op <;> first | exact .inl rfl | exact .inr rfl | (simp [As, ho, hs] at hq)
  simp only [Al, ho, hs] at h
  rcases hqr with rfl | rfl
  ·split at h
   ·rename_i hu hv
    exact div _ _ _ _ _ (.inl ⟨rfl, rfl⟩) hu hv h
   all_goals first | contradiction | exact sem' h
  ·split at h
   ·contradiction
   ·rename_i hu hv
    exact div _ _ _ _ _ (.inr ⟨rfl, rfl⟩) hu hv h
   all_goals first | contradiction | exact sem' h
 case index t x i =>
  cases hs : Cg H o
  ·exfalso; simp [As, ho, hs] at hq
  ·simp only [Al, ho, hs] at h; exact sem' h
 case unOp op t x =>
  cases op <;> first
   | (simp [As, ho] at hq; done)
   | (simp only [Al, ho] at h; exact sem' h)
 all_goals first
  | (simp only [Al, ho] at h; exact sem' h)
  | (simp only [Al, ho] at h; done)
  | (exfalso; simp [As, ho] at hq; done)
  | (exfalso; simp only [Al, ho] at h; done)
end
end Go.Sx
