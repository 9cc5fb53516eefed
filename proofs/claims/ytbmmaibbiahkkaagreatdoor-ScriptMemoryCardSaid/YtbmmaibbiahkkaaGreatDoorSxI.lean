/- What is asked of a function's text suffices. Conditions: none. -/
import Derived.Test.YtbmmaibbiahkkaaGreatDoorSxK
namespace Go.Sx
set_option linter.unusedSimpArgs false
section
variable {P : Program} {H : Dq}
theorem Lt {ι : Type} {c : Code} {Q : Exit → Act → World → Prop} {a : Act} {w : World} (I : ι → Act → World → Prop) (μ : ι → Nat) {i : ι} (h₀ : I i a w)
  (round : ∀ i a w, I i a w → c.wp P (Exit.then (fun a' w' => ∃ j, I j a' w' ∧ μ j < μ i) Q) a w) : (Code.loop c).wp P Q a w := by
 intro b k cs
 have key : ∀ n i a w, μ i = n → I i a w →
   ∃ e a' w', Q e a' w' ∧ Arrives P (lone (b.at a (.code c :: .inLoop c :: k)) cs w) b k cs e a' w' := by
  intro n
  induction n using Nat.strongRecOn with
  | _ n ih =>
   intro i a w hn hI
   obtain ⟨e, a₁, w₁, hq, harr⟩ := round i a w hI b (.inLoop c :: k) cs
   cases e with
   | normal =>
    obtain ⟨j, hI₁, hlt⟩ := hq
    obtain ⟨e₂, a₂, w₂, hq₂, harr₂⟩ := ih (μ j) (hn ▸ hlt) j a₁ w₁ rfl hI₁
    exact ⟨e₂, a₂, w₂, hq₂, .of_steps (Steps.trans harr (.one step_inLoop)) harr₂⟩
   | exit id => exact ⟨_, a₁, w₁, hq, .pass (x := .inLoop c) rfl (fun _ _ => .inl (by simp)) harr⟩
   | goto l => exact ⟨_, a₁, w₁, hq, .pass (x := .inLoop c) rfl (fun _ _ => .inl (by simp)) harr⟩
   | ret => exact ⟨_, a₁, w₁, hq, .pass (x := .inLoop c) rfl (fun _ _ => .inl (by simp)) harr⟩
   | panic ch => exact ⟨_, a₁, w₁, hq, .pass (x := .inLoop c) rfl (fun _ _ => .inl (by simp)) harr⟩
   | outgrown => exact ⟨_, a₁, w₁, hq, .pass (x := .inLoop c) rfl (fun _ _ => .inl (by simp)) harr⟩
 obtain ⟨e, a', w', hq, harr⟩ := key _ i a w rfl h₀
 exact ⟨e, a', w', hq, .of_steps (.one step_loop) harr⟩
theorem Ct {s : DS} : ∀ {l : List (Nat × S1)} {vs : List Value}, Dr s l = some vs → vs.length = l.length ∧ ∀ (rest : List Value) (e0 : List (Nat × EV)) (t : Nat) (e : EV), get (B5 l (vs ++ rest) e0) t = some e → (∃ x, get s.env t = some x ∧ ∃ v, x.toV = some v ∧ e = .val v) ∨ (get e0 t = some e ∧ ∀ p ∈ l, p.1 ≠ t)
 | [], vs, h => by
  simp only [Dr, Option.some.injEq] at h; subst h
  exact ⟨rfl, fun rest e0 t e he => .inr ⟨by simpa [B5] using he, by simp⟩⟩
 | (t0, sh) :: r, vs, h => by
  simp only [Dr] at h
  split at h
  ·rename_i x hx
   split at h
   ·rename_i v hv
    split at h
    ·rename_i us hus
     simp only [Option.some.injEq] at h; subst h
     obtain ⟨hl, ih⟩ := Ct hus
     refine ⟨by simp [hl], fun rest e0 t e he => ?_⟩
     simp only [List.cons_append, B5, Av] at he
     split at he
     ·subst_vars
      simp only [Option.some.injEq] at he; subst he
      exact .inl ⟨x, hx, v, hv, rfl⟩
     ·rename_i hne
      rcases ih rest e0 t e he with h | ⟨h1, h2⟩
      ·exact .inl h
      ·exact .inr ⟨h1, fun p hp => by
        cases hp with
        | head => exact hne
        | tail _ hp => exact h2 p hp⟩
    ·cases h
   ·cases h
  ·cases h
theorem D8 {s : DS} : ∀ {l : List (Nat × TypeId × List S1)} {vs : List Value}, C1 s l = some vs → ∀ (id : Nat) (lb : LB), get (Bh l vs) id = some lb → get s.loc id = some lb
 | [], vs, h, id, lb, hg => by simp [Bh, get] at hg
 | (id0, ty, sh) :: r, vs, h, id, lb, hg => by
  simp only [C1] at h
  split at h
  ·rename_i lb0 hl0
   split at h
   ·rename_i us hus
    split at h
    ·rename_i hb
     simp only [Option.some.injEq] at h; subst h
     simp only [Bool.and_eq_true] at hb
     have h1 := C2 hb.1
     have h2 := C2 hb.2
     simp only [Bh, Av] at hg
     have e1 : F8 sh.length (lb0.cells ++ us) = lb0.cells := by rw [Hz, ← h1]; simp
     have e2 : El sh.length (lb0.cells ++ us) = us := by rw [Ga, ← h1]; simp
     rw [e1, e2] at hg
     split at hg
     ·subst_vars
      simp only [Option.some.injEq] at hg; subst hg
      rw [hl0]
     ·exact D8 hus id lb hg
    ·cases h
   ·cases h
  ·cases h
theorem Ko {α : Type} {l : List (Nat × α)} {i : Nat} : i ∈ keys l ↔ ∃ x, (i, x) ∈ l := by
 induction l with
 | nil => simp [keys]
 | cons p r ih =>
  obtain ⟨j, x⟩ := p
  simp only [keys, List.mem_cons, ih]
  constructor
  ·rintro (rfl | ⟨y, hy⟩)
   ·exact ⟨x, .inl rfl⟩
   ·exact ⟨y, .inr hy⟩
  ·rintro ⟨y, h | h⟩
   ·cases h; exact .inl rfl
   ·exact .inr ⟨y, h⟩
theorem Dl {s : DS} : ∀ {l : List (Nat × TypeId × List S1)} {vs : List Value}, C1 s l = some vs → ∀ p ∈ l, get s.loc p.1 ≠ none
 | [], _, _, p, hp => by cases hp
 | (id0, ty, sh) :: r, vs, h, p, hp => by
  simp only [C1] at h
  split at h
  ·rename_i lb0 hl0
   split at h
   ·rename_i us hus
    cases hp with
    | head => rw [hl0]; simp
    | tail _ hp => exact Dl hus p hp
   ·cases h
  ·cases h
theorem Dm : ∀ {l : List (Nat × TypeId × List S1)} {vs : List Value} {id : Nat} {lb : LB}, get (Bh l vs) id = some lb → id ∈ keys l
 | [], _, _, _, h => by simp [Bh, get] at h
 | (id0, ty, sh) :: r, vs, id, lb, h => by
  simp only [Bh, Av] at h
  simp only [keys, List.mem_cons]
  split at h
  ·exact .inl (Eq.symm ‹_›)
  ·exact .inr (Dm h)
theorem Ge {s : DS} {h : Ay} {vs : List Value} (hv : Ds s h = some vs) : ∃ a b, Dr s h.slots = some a ∧ C1 s h.cells = some b ∧ vs = a ++ b ∧ El h.slots.length vs = b := by
 unfold Ds at hv
 split at hv
 ·rename_i a ha
  split at hv
  ·rename_i b hb
   simp only [Option.some.injEq] at hv; subst hv
   refine ⟨a, b, ha, hb, rfl, ?_⟩
   rw [Ga, ← (Ct ha).1]; simp
  ·cases hv
 ·cases hv
theorem Gf {α : Type} {ws : List Nat} {l : List (Nat × α)} {t : Nat} {e : α} (ht : t ∉ ws) (h : (t, e) ∈ l) : (t, e) ∈ drop ws l := by
 induction l with
 | nil => cases h
 | cons p r ih =>
  obtain ⟨j, x⟩ := p
  simp only [drop]
  cases hb : Be ws j
  ·cases h with
   | head => simp
   | tail _ h => exact List.mem_cons_of_mem _ (ih h)
  ·cases h with
   | head => exact absurd (Bq.1 hb) ht
   | tail _ h => exact ih h
theorem Cu : ∀ {l : List (Nat × S1)} {vs : List Value} {e0 : List (Nat × EV)} {x : Nat × EV}, x ∈ e0 → x ∈ B5 l vs e0
 | [], _, _, _, h => by simpa [B5] using h
 | (t, _) :: r, [], _, _, h => by simpa [B5] using h
 | (t, _) :: r, v :: vs, _, _, h => by simp only [B5]; exact List.mem_cons_of_mem _ (Cu h)
theorem Dc (s s' : DS) (h : Ay) (F : List (Nat × LB)) (id : Nat) : getL { s' with loc := s'.loc ++ Ai s h } F id = getL s' (Ai s h ++ F) id := by
 simp only [getL, get_append]
 split <;> rename_i x hx <;> split at hx <;> (try cases hx) <;> simp_all
theorem Rel.head {wi wi₀ : World} {n : Nat} {F : List (Nat × LB)} {s s' : DS} {a a' : Act} {w w₀ w' w₀' : World} {ρ ρ' : Nat → Nat} {h : Ay} {ws : List Nat} {vs : List Value}
  (hr : Rel wi wi₀ n F s a w w₀ ρ) (hr' : Rel wi wi₀ n (Ai s h ++ F) s' a' w' w₀' ρ') (hv : Ds s' h = some vs) (ha : Agree ws a a') (hp : ∀ t id off, t ∉ ws → (t, EV.loc id off) ∈ s.env → ρ' id = ρ id) (hdf : s'.defs = s.defs) :
  Rel wi wi₀ n (Ai s h ++ F) (By s h ws vs) a' w' w₀' ρ' := by
 obtain ⟨x, y, hx, hy, hxy, hdrop⟩ := Ge hv
 have hloc : ∀ id lb, getL (By s h ws vs) (Ai s h ++ F) id = some lb → getL s' (Ai s h ++ F) id = some lb := by
  intro id lb hl
  unfold getL at hl ⊢
  simp only [By, hdrop] at hl
  cases hc : get (Bh h.cells y) id with
  | some lb0 =>
   rw [hc] at hl
   simp only [Option.some.injEq] at hl; subst hl
   rw [D8 hy id _ hc]
  | none =>
   rw [hc] at hl
   simp only at hl
   rw [hr'.disj id lb hl]; exact hl
 refine ⟨hr'.size, hr'.nodef.trans hdf, hr'.hides, hr'.kept, fun t e he => ?_, fun id lb hl => hr'.loc id lb (hloc id lb hl), fun id id' lb lb' h1 h2 => hr'.inj id id' lb lb' (hloc _ _ h1) (hloc _ _ h2), fun id lb hg => ?_⟩
 ·simp only [By, hxy] at he
  rcases (Ct hx).2 y _ t e he with ⟨z, hz, v, hzv, rfl⟩ | ⟨hg, -⟩
  ·rw [hr'.env t z hz, F9 hzv]; rfl
  ·rw [Bu] at hg
   split at hg
   ·cases hg
   ·rename_i ht
    rw [ha t ht, hr.env t e hg]
    cases e with
    | val v => rfl
    | lit b => rfl
    | loc id off => simp only [conc]; rw [hp t id off ht (get_mem hg)]
 ·cases hc : get (By s h ws vs).loc id with
  | none => rfl
  | some lb0 =>
   have hk := Dm hc
   obtain ⟨p, hp'⟩ := Ko.1 hk
   have hs' := Dl hy _ hp'
   exact absurd (hr'.disj id lb hg) hs'
theorem Kp {α : Type} (l : List Nat) (e : List (Nat × α)) (t : Nat) : get (pick l e) t = if t ∈ l then get e t else none := by
 induction e with
 | nil => simp [pick, get]
 | cons x r ih =>
  obtain ⟨j, v⟩ := x
  simp only [pick]
  cases hb : Be l j
  ·have hj : j ∉ l := fun h => by rw [Bq.2 h] at hb; cases hb
   simp only [cond_false, Av, ih]
   by_cases h : j = t
   ·subst h; simp [hj]
   ·simp [h]
  ·have hj := Bq.1 hb
   simp only [cond_true, ih, Av]
   by_cases h : j = t
   ·subst h; simp [hj]
   ·simp [h]
theorem Fx (s : DS) (h : Ay) (id : Nat) : get (Ai s h) id = if id ∈ keys h.cells then none else get s.loc id := by unfold Ai; rw [Bu]
theorem Rel.thaw {wi wi₀ : World} {n : Nat} {F : List (Nat × LB)} {s s' : DS} {a : Act} {w w₀ : World} {ρ : Nat → Nat} {h : Ay} (hd : ∀ id lb, get F id = some lb → get s.loc id = none) (hr' : Rel wi wi₀ n (Ai s h ++ F) s' a w w₀ ρ) :
  Rel wi wi₀ n F { s' with loc := s'.loc ++ Ai s h } a w w₀ ρ := by
 refine ⟨hr'.size, hr'.nodef, hr'.hides, hr'.kept, hr'.env, fun id lb hl => ?_, fun id id' lb lb' h1 h2 => ?_, fun id lb hg => ?_⟩
 ·rw [Dc] at hl; exact hr'.loc id lb hl
 ·rw [Dc] at h1 h2; exact hr'.inj id id' lb lb' h1 h2
 ·simp only [get_append]
  have hF : get (Ai s h) id = none := by
   rw [Fx]
   split
   ·rfl
   ·exact hd id lb hg
  have : get (Ai s h ++ F) id = some lb := by rw [get_append, hF]; exact hg
  rw [hr'.disj id lb this, hF]
theorem Rel.freeze {wi wi₀ : World} {n : Nat} {F : List (Nat × LB)} {s : DS} {a : Act} {w w₀ : World} {ρ : Nat → Nat} {h : Ay} (hr : Rel wi wi₀ n F s a w w₀ ρ) :
  Rel wi wi₀ n (Ai s h ++ F) { s with loc := pick (keys h.cells) s.loc } a w w₀ ρ := by
 have hg : ∀ id, getL { s with loc := pick (keys h.cells) s.loc } (Ai s h ++ F) id = getL s F id := by
  intro id
  simp only [getL, Kp, get_append, Fx]
  by_cases hk : id ∈ keys h.cells
  ·simp only [hk, if_true]
  ·simp only [hk, if_false]
   cases get s.loc id <;> rfl
 refine ⟨hr.size, hr.nodef, hr.hides, hr.kept, hr.env, fun id lb hl => hr.loc id lb (by rw [← hg]; exact hl), fun id id' lb lb' h1 h2 => hr.inj id id' lb lb' (by rw [← hg]; exact h1) (by rw [← hg]; exact h2), fun id lb hl => ?_⟩
 rw [Kp]
 split
 ·rename_i hk
  rw [get_append, Fx, if_pos hk] at hl
  exact hr.disj id lb hl
 ·rfl
theorem Mm {s s' : DS} (h : ∃ l, s'.defs = l ++ s.defs) (hl : Nat.beq s'.defs.length s.defs.length = true) : s'.defs = s.defs := by
 obtain ⟨l, hl'⟩ := h
 have := C2 hl
 rw [hl', List.length_append] at this
 have : l = [] := List.eq_nil_of_length_eq_zero (by omega)
 rw [hl', this]; rfl
theorem Gx (hmix : P.follows .mixedOrders = true) {wi wi₀ : World} {n : Nat} (c : Code) : ∀ (F : List (Nat × LB)) (K : Exit → DS → World → Prop) (s : DS) (w : World) (a : Act) (w₀ : World) (ρ : Nat → Nat) (Q : Exit → Act → World → Prop),
    den P H n c F K s w → Rel wi wi₀ n F s a w w₀ ρ →
    (∀ e s' a' w' w₀' ρ', K e s' w' → Rel wi wi₀ n F s' a' w' w₀' ρ' → Agree (writes c) a a' → Evol (writes c) s s' ρ ρ' → Q e a' w₀') → c.wp P Q a w₀ := by
  induction c with
  | skip => intro F K s w a w₀ ρ Q h hr hQ; exact wp_skip (hQ _ _ _ _ _ _ h hr (Agree.refl _ _) (Evol.refl _ _ _))
  | label l => intro F K s w a w₀ ρ Q h hr hQ; exact wp_label (hQ _ _ _ _ _ _ h hr (Agree.refl _ _) (Evol.refl _ _ _))
  | exit id => intro F K s w a w₀ ρ Q h hr hQ; exact wp_exit (hQ _ _ _ _ _ _ h hr (Agree.refl _ _) (Evol.refl _ _ _))
  | ret => intro F K s w a w₀ ρ Q h hr hQ; exact wp_ret (hQ _ _ _ _ _ _ h hr (Agree.refl _ _) (Evol.refl _ _ _))
  | region id ops draw =>
    intro F K s w a w₀ ρ Q h hr hQ
    cases draw with
    | false => exact wp_region_list (Gv hQ ops.toList s a w w₀ ρ (fun _ h => h) h hr (Agree.refl _ _) (Evol.refl _ _ _))
    | true =>
      unfold den at h
      split at h
      · rename_i dh hdh
        obtain ⟨hg, h⟩ := Ab h
        simp only [Bool.and_eq_true] at hg
        have hle : dh.order.len ≤ ops.size := Nat.le_of_ble_eq_true hg.2
        -- a way out by panic asks nothing of what the region itself wrote
        let QN : Exit → Act → World → Prop := fun e a w => match e with | .panic c => ∀ a', Agree (dsts ops.toList) a a' → a'.tmps.size = a.tmps.size → a'.defers = a.defers → Q (.panic c) a' w | e => Q e a w
        have hmono : ∀ e a w, QN e a w → Q e a w := fun e a w hq => by cases e <;> first | exact hq | exact hq a (Agree.refl _ _) rfl rfl
        have hPut : ∀ c a w (o : Oper) v, o ∈ ops.toList → QN (.panic c) (a.put o.dst v) w → QN (.panic c) a w := by
          intro c a w o v ho hq a' hag hsz hdf
          refine hq a' (fun t ht => (hag t ht).trans ((Agree.put a o.dst v (fun d hd => Eu ho hd)) t ht).symm) (hsz.trans ?_) (hdf.trans ?_)
          · cases o.dst <;> simp [Act.put]
          · cases o.dst <;> rfl
        have hPn : ∀ c s' a' w' w₀' ρ', K (.panic c) { s' with env := drop (dsts ops.toList) s'.env } w' → Rel wi wi₀ n F s' a' w' w₀' ρ' → Agree (dsts ops.toList) a a' → Evol (dsts ops.toList) s s' ρ ρ' → QN (.panic c) a' w₀' := by
          intro c s' a' w' w₀' ρ' hk hr' ha hv a'' hag hsz hdf
          refine hQ _ _ _ _ _ ρ' hk ⟨hsz.trans hr'.size, hdf.trans hr'.nodef, hr'.hides, hr'.kept, fun t e he => ?_, hr'.loc, hr'.inj, hr'.disj⟩ (ha.trans hag) ⟨fun t e ht hm => Gf ht (hv.mem t e ht hm), hv.pin, hv.defs⟩
          rw [Bu] at he
          split at he
          · cases he
          · rename_i ht
            rw [hag t ht]; exact hr'.env t e he
        refine wp_mono ?_ hmono
        have hh : Ae (w.drewN 1) (w₀.drewN 1) := ⟨hr.hides.os, hr.hides.tape, by show w.drawn + 1 = w₀.drawn + 1; rw [hr.hides.drawn], hr.hides.output, hr.hides.size, hr.hides.block⟩
        have hr1 : Rel wi wi₀ n F s a (w.drewN 1) (w₀.drewN 1) ρ := hr.same rfl rfl hh
        have hd := h (w.drewN 1) ⟨rfl, rfl, rfl, Nat.le_refl _, fun _ _ => rfl⟩
        refine wp_region_any hmix (H4 _ _ _ _ (D7 (Q := QN) hg.1 hPut hPn (fun s' a' w' w₀' ρ' hk hr' ha hv => hQ _ _ _ _ _ _ hk hr' ha hv) dh.order true (Array.replicate ops.size false) [] [] s a (w.drewN 1) (w₀.drewN 1) ρ ops.size hle (by simp) (fun _ h => by cases h) hd hr1 (Agree.refl _ _) (Evol.refl _ _ _)))
      · obtain ⟨hg, h⟩ := Ab h
        simp only [Bool.and_eq_true] at hg
        refine wp_region_quiet (C := fun w' => ∃ m, w' = w₀.drewN m) hmix hg.2 ⟨1, rfl⟩ ?_
        refine Ew (K := fun s' w' => ∀ w'', Grew w' w'' → K .normal s' w'') (w := w) (s₀ := s) (ρ := ρ) (fun s' a' hk hr' ha hv => ?_) ops.toList s a (fun _ h => h) hg.1 h hr (Agree.refl _ _) (Evol.refl _ _ _)
        rintro w' ⟨m, rfl⟩
        have hh : Ae (w.drewN m) (w₀.drewN m) := ⟨hr'.hides.os, hr'.hides.tape, by show w.drawn + m = w₀.drawn + m; rw [hr'.hides.drawn], hr'.hides.output, hr'.hides.size, hr'.hides.block⟩
        exact hQ _ _ _ _ _ _ (hk (w.drewN m) ⟨rfl, rfl, rfl, Nat.le_refl _, fun _ _ => rfl⟩) (hr'.same rfl rfl hh) ha hv
  | seq x y ihx ihy =>
    intro F K s w a w₀ ρ Q h hr hQ
    unfold den at h
    split at h
    · rename_i hint hh
      obtain ⟨J, hx, hy⟩ := h
      refine wp_seq (ihx _ _ _ w a w₀ ρ _ hx (hr.freeze (h := hint)) fun e s' a' w' w₀' ρ' hk hr' ha hv => ?_)
      have ha' : Agree (writes (.seq x y)) a a' := ha.mono fun t ht => by simp [writes, ht]
      have out : e ≠ .normal → K e { s' with loc := s'.loc ++ Ai s hint } w' → Q e a' w₀' := fun _ hk =>
        hQ _ _ _ _ _ _ hk (hr'.thaw hr.disj) ha' ⟨fun t e ht hm => hv.mem t e (fun h' => ht (by simp [writes, h'])) hm, fun t id off ht hm => hv.pin t id off (fun h' => ht (by simp [writes, h'])) hm, hv.defs⟩
      cases e with
      | normal =>
        simp only at hk
        split at hk
        · rename_i vs hvs
          obtain ⟨hsh, hJ⟩ := Ab hk
          simp only [Bool.and_eq_true] at hsh
          obtain ⟨hsh, hdl⟩ := hsh
          have hdf := Mm hv.defs hdl
          have hb := Ho hy vs hsh w' hJ
          have hp : ∀ t id off, t ∉ writes x → (t, EV.loc id off) ∈ s.env → ρ' id = ρ id := fun t id off ht hm => hv.pin t id off ht hm
          have hrb := (Rel.head hr hr' hvs ha hp hdf).thaw hr.disj
          refine ihy F K _ w' a' w₀' ρ' Q hb hrb fun e s'' a'' w'' w₀'' ρ'' hk hr'' ha'' hv'' => ?_
          refine hQ _ _ _ _ _ _ hk hr'' (ha'.trans (ha''.mono fun t ht => by simp [writes, ht])) ⟨fun t e ht hm => ?_, fun t id off ht hm => ?_, hv''.defs⟩
          · exact hv''.mem t e (fun h' => ht (by simp [writes, h'])) (Cu (Gf (fun h' => ht (by simp [writes, h'])) hm))
          · exact (hv''.pin t id off (fun h' => ht (by simp [writes, h'])) (Cu (Gf (fun h' => ht (by simp [writes, h'])) hm))).trans (hp t id off (fun h' => ht (by simp [writes, h'])) hm)
        · exact hk.elim
      | exit id => exact out (by simp) hk
      | goto l => exact out (by simp) hk
      | ret => exact out (by simp) hk
      | panic c => exact out (by simp) hk
      | outgrown => exact out (by simp) hk
    · refine wp_seq (ihx F _ s w a w₀ ρ _ h hr fun e s' a' w' w₀' ρ' hk hr' ha hv => ?_)
      have ha' : Agree (writes (.seq x y)) a a' := ha.mono fun t ht => by simp [writes, ht]
      have hv' : Evol (writes (.seq x y)) s s' ρ ρ' := hv.mono fun t ht => by simp [writes, ht]
      cases e with
      | normal =>
        exact ihy F K s' w' a' w₀' ρ' Q hk hr' fun e s'' a'' w'' w₀'' ρ'' hk hr'' ha'' hv'' =>
          hQ _ _ _ _ _ _ hk hr'' (ha'.trans (ha''.mono fun t ht => by simp [writes, ht])) (hv'.trans (hv''.mono fun t ht => by simp [writes, ht]))
      | exit id => exact hQ _ _ _ _ _ _ hk hr' ha' hv'
      | goto l => exact hQ _ _ _ _ _ _ hk hr' ha' hv'
      | ret => exact hQ _ _ _ _ _ _ hk hr' ha' hv'
      | panic c => exact hQ _ _ _ _ _ _ hk hr' ha' hv'
      | outgrown => exact hQ _ _ _ _ _ _ hk hr' ha' hv'
  | cond c x y ihx ihy =>
    intro F K s w a w₀ ρ Q h hr hQ
    have qx : ∀ e s' a' w' w₀' ρ', K e s' w' → Rel wi wi₀ n F s' a' w' w₀' ρ' → Agree (writes x) a a' → Evol (writes x) s s' ρ ρ' → Q e a' w₀' := fun e s' a' w' w₀' ρ' hk hr' ha hv =>
      hQ _ _ _ _ _ _ hk hr' (ha.mono fun t ht => by simp [writes, ht]) (hv.mono fun t ht => by simp [writes, ht])
    have qy : ∀ e s' a' w' w₀' ρ', K e s' w' → Rel wi wi₀ n F s' a' w' w₀' ρ' → Agree (writes y) a a' → Evol (writes y) s s' ρ ρ' → Q e a' w₀' := fun e s' a' w' w₀' ρ' hk hr' ha hv =>
      hQ _ _ _ _ _ _ hk hr' (ha.mono fun t ht => by simp [writes, ht]) (hv.mono fun t ht => by simp [writes, ht])
    unfold den at h
    split at h
    · rename_i hc; exact wp_cond_true (A2 hr.env hc) (ihx F K s w a w₀ ρ Q h hr qx)
    · rename_i hc; exact wp_cond_false (A2 hr.env hc) (ihy F K s w a w₀ ρ Q h hr qy)
    · rename_i t hc
      exact wp_cond_split (A2 hr.env hc) (fun ht => ihx F K s w a w₀ ρ Q (h.1 ht) hr qx) (fun ht => ihy F K s w a w₀ ρ Q (h.2 ht) hr qy)
    · exact h.elim
  | block id x ih =>
    intro F K s w a w₀ ρ Q h hr hQ
    refine wp_block (ih F _ s w a w₀ ρ _ h hr fun e s' a' w' w₀' ρ' hk hr' ha hv => ?_)
    cases e with
    | exit i =>
      show if i = id then Q .normal a' w₀' else Q (.exit i) a' w₀'
      by_cases hi : i = id
      · subst hi
        rw [if_pos rfl]
        have : Nat.beq i i = true := by simp
        simp only [this] at hk
        exact hQ _ _ _ _ _ _ hk hr' ha hv
      · rw [if_neg hi]
        have : Nat.beq i id = false := by cases hb : Nat.beq i id; · rfl
                                          · exact absurd (C2 hb) hi
        simp only [this] at hk
        exact hQ _ _ _ _ _ _ hk hr' ha hv
    | normal => exact hQ _ _ _ _ _ _ hk hr' ha hv
    | goto l => exact hQ _ _ _ _ _ _ hk hr' ha hv
    | ret => exact hQ _ _ _ _ _ _ hk hr' ha hv
    | panic c => exact hQ _ _ _ _ _ _ hk hr' ha hv
    | outgrown => exact hQ _ _ _ _ _ _ hk hr' ha hv
  | loop b ih =>
    intro F K s w a w₀ ρ Q h hr hQ
    unfold den at h
    split at h
    · exact h.elim
    · rename_i hint hh
      unfold Ml at h
      split at h
      · exact h.elim
      · rename_i vs₀ hvs₀
        obtain ⟨hsh₀, I₀, μ₀, hI₀, hround⟩ := Ab h
        let I : List Value → World → Prop := fun vs w => apV (fun _ => False) (Az hint) I₀ vs w
        let μ : List Value → World → Nat := fun vs w => apV (fun _ => 0) (Az hint) μ₀ vs w
        -- at the start the frozen ones may as well be fixed
        have hr0 : Rel wi wi₀ n (Ai s hint ++ F) (By s hint (writes b) vs₀) a w w₀ ρ := by
          obtain ⟨x, y, hx, hy, hxy, hdrop⟩ := Ge hvs₀
          have hloc : ∀ id lb, getL (By s hint (writes b) vs₀) (Ai s hint ++ F) id = some lb → getL s F id = some lb := by
            intro id lb hl
            unfold getL at hl ⊢
            simp only [By, hdrop] at hl
            cases hc : get (Bh hint.cells y) id with
            | some lb0 =>
              rw [hc] at hl
              simp only [Option.some.injEq] at hl; subst hl
              rw [D8 hy id _ hc]
            | none =>
              rw [hc] at hl
              simp only [get_append] at hl
              cases hf : get (Ai s hint) id with
              | some lb1 =>
                rw [hf] at hl
                simp only [Option.some.injEq] at hl; subst hl
                unfold Ai at hf
                rw [Bu] at hf
                split at hf
                · cases hf
                · rw [hf]
              | none =>
                rw [hf] at hl
                simp only at hl
                rw [hr.disj id lb hl]; exact hl
          refine ⟨hr.size, hr.nodef, hr.hides, hr.kept, fun t e he => ?_, fun id lb hl => hr.loc id lb (hloc id lb hl), fun id id' lb lb' h1 h2 => hr.inj id id' lb lb' (hloc _ _ h1) (hloc _ _ h2), fun id lb hg => ?_⟩
          · simp only [By, hxy] at he
            rcases (Ct hx).2 y _ t e he with ⟨z, hz, v, hzv, rfl⟩ | ⟨hg, -⟩
            · rw [hr.env t z hz, F9 hzv]; rfl
            · rw [Bu] at hg
              split at hg
              · cases hg
              · exact hr.env t e hg
          · cases hc : get (By s hint (writes b) vs₀).loc id with
            | none => rfl
            | some lb0 =>
              exfalso
              have hk := Dm hc
              obtain ⟨p, hp'⟩ := Ko.1 hk
              have hs' := Dl hy _ hp'
              simp only [get_append] at hg
              cases hf : get (Ai s hint) id with
              | some lb1 =>
                unfold Ai at hf
                rw [Bu] at hf
                split at hf
                · cases hf
                · exact absurd hk ‹_›
              | none =>
                rw [hf] at hg
                exact hs' (hr.disj id lb hg)
        let J : (List Value × World × (Nat → Nat)) → Act → World → Prop := fun i a' w₀' =>
          I i.1 i.2.1 ∧ is1L (Az hint) i.1 = true ∧ Rel wi wi₀ n (Ai s hint ++ F) (By s hint (writes b) i.1) a' i.2.1 w₀' i.2.2 ∧ Agree (writes b) a a' ∧ (∀ t id off, t ∉ writes b → (t, EV.loc id off) ∈ s.env → i.2.2 id = ρ id)
        refine Lt J (fun i => μ i.1 i.2.1) (i := (vs₀, w, ρ)) ⟨hI₀, hsh₀, hr0, Agree.refl _ _, fun _ _ _ _ _ => rfl⟩ ?_
        rintro ⟨vs, w1, ρ1⟩ a1 w01 ⟨hI, hsh, hr1, ha1, hp1⟩
        have hb := Ho hround vs hsh w1 hI
        refine ih _ _ _ _ _ _ _ _ hb hr1 fun e s' a' w' w₀' ρ' hk hr' ha hv => ?_
        have ha' : Agree (writes b) a a' := ha1.trans ha
        have hmem : ∀ t e, t ∉ writes b → (t, e) ∈ s.env → (t, e) ∈ (By s hint (writes b) vs).env := fun t e ht hm => Cu (Gf ht hm)
        have hp' : ∀ t id off, t ∉ writes b → (t, EV.loc id off) ∈ s.env → ρ' id = ρ id := fun t id off ht hm => (hv.pin t id off ht (hmem t _ ht hm)).trans (hp1 t id off ht hm)
        have out : e ≠ .normal → K e { s' with loc := s'.loc ++ Ai s hint } w' → Q e a' w₀' := by
          intro _ hk
          refine hQ e _ a' w' w₀' ρ' hk ⟨hr'.size, hr'.nodef, hr'.hides, hr'.kept, hr'.env, fun id lb hl => ?_, fun id id' lb lb' h1 h2 => ?_, fun id lb hg => ?_⟩ ha' ⟨fun t e ht hm => hv.mem t e ht (hmem t e ht hm), hp', hv.defs⟩
          · rw [Dc] at hl; exact hr'.loc id lb hl
          · rw [Dc] at h1 h2; exact hr'.inj id id' lb lb' h1 h2
          · simp only [get_append]
            have hF : get (Ai s hint) id = none := by
              unfold Ai
              rw [Bu]
              split
              · rfl
              · exact hr.disj id lb hg
            have : get (Ai s hint ++ F) id = some lb := by rw [get_append, hF]; exact hg
            rw [hr'.disj id lb this, hF]
        cases e with
        | normal =>
          show ∃ j, J j a' w₀' ∧ _
          simp only at hk
          split at hk
          · rename_i vs' hvs'
            obtain ⟨hsh', hI', hlt⟩ := Ab hk
            simp only [Bool.and_eq_true] at hsh'
            exact ⟨(vs', w', ρ'), ⟨hI', hsh'.1, Rel.head hr hr' hvs' ha' hp' (Mm hv.defs hsh'.2), ha', hp'⟩, hlt⟩
          · exact hk.elim
        | exit id => exact out (by simp) hk
        | goto l => exact out (by simp) hk
        | ret => exact out (by simp) hk
        | panic c => exact out (by simp) hk
        | outgrown => exact out (by simp) hk
  | rangeFunc f ps x y _ _ => intro F K s w a w₀ ρ Q h; exact h.elim
  | scope b _ => intro F K s w a w₀ ρ Q h; exact h.elim
  | goto l => intro F K s w a w₀ ρ Q h; exact h.elim
  | refuse why => intro F K s w a w₀ ρ Q h; exact h.elim
end
end Go.Sx
