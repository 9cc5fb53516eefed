/- Regions and code by its form. Conditions: none. -/
import Derived.Test.YtbmmaibbiahkkaaGreatDoorSxG
namespace Go.Sx
set_option linter.unusedSimpArgs false
section
variable {P : Program} {H : Dq}
theorem I0 (x : Array Value) (d : Nat) (v : Value) (h : d < x.size) : (x.setIfInBounds d v).getD d undef = v := by
 simp [Array.getD, h]
theorem C3 (x : Array Value) (d t : Nat) (v : Value) (h : d ≠ t) : (x.setIfInBounds d v).getD t undef = x.getD t undef := by
 simp only [Array.getD_eq_getD_getElem?, Array.getElem?_setIfInBounds]
 rw [if_neg h]
def Agree (ws : List Nat) (a a' : Act) : Prop := ∀ t, t ∉ ws → a'.tmps.getD t undef = a.tmps.getD t undef
theorem Agree.refl (ws : List Nat) (a : Act) : Agree ws a a := fun _ _ => rfl
theorem Agree.trans {ws : List Nat} {a b c : Act} (h : Agree ws a b) (k : Agree ws b c) : Agree ws a c := fun t ht => (k t ht).trans (h t ht)
theorem Agree.mono {ws ws' : List Nat} {a b : Act} (h : Agree ws a b) (hs : ∀ t ∈ ws, t ∈ ws') : Agree ws' a b := fun t ht => h t fun h' => ht (hs t h')
theorem Agree.put {ws : List Nat} (a : Act) (dst : Option Tmp) (v : Value) (h : ∀ d, dst = some d → d ∈ ws) : Agree ws a (a.put dst v) := by
 intro t ht
 cases dst with
 | none => rfl
 | some d => exact C3 _ _ _ _ fun e => ht (e ▸ h d rfl)
theorem Rel.put {wi wi₀ : World} {n : Nat} {F : List (Nat × LB)} {s : DS} {a : Act} {w w₀ : World} {ρ : Nat → Nat} (hr : Rel wi wi₀ n F s a w w₀ ρ) (d : Nat) (e : EV) (hd : d < n) :
  Rel wi wi₀ n F { s with env := (d, e) :: s.env } (a.put (some d) (conc ρ e)) w w₀ ρ := by
 refine ⟨by simp [Act.put, hr.size], hr.nodef, hr.hides, hr.kept, fun t x hx => ?_, hr.loc, hr.inj, hr.disj⟩
 rw [Av] at hx
 by_cases h : d = t
 ·subst h
  rw [if_pos rfl] at hx
  simp only [Option.some.injEq] at hx; subst hx
  exact I0 _ _ _ (by rw [hr.size]; exact hd)
 ·rw [if_neg h] at hx
  show (a.tmps.setIfInBounds d (conc ρ e)).getD t undef = _
  rw [C3 _ _ _ _ h]; exact hr.env t x hx
structure Evol (ws : List Nat) (s s' : DS) (ρ ρ' : Nat → Nat) : Prop where
 mem : ∀ t e, t ∉ ws → (t, e) ∈ s.env → (t, e) ∈ s'.env
 pin : ∀ t id off, t ∉ ws → (t, EV.loc id off) ∈ s.env → ρ' id = ρ id
 defs : ∃ l, s'.defs = l ++ s.defs
theorem Evol.refl (ws : List Nat) (s : DS) (ρ : Nat → Nat) : Evol ws s s ρ ρ := ⟨fun _ _ _ h => h, fun _ _ _ _ _ => rfl, [], rfl⟩
theorem Evol.trans {ws : List Nat} {s s' s'' : DS} {ρ ρ' ρ'' : Nat → Nat} (h : Evol ws s s' ρ ρ') (k : Evol ws s' s'' ρ' ρ'') : Evol ws s s'' ρ ρ'' :=
 ⟨fun t e ht hm => k.mem t e ht (h.mem t e ht hm), fun t id off ht hm => (k.pin t id off ht (h.mem _ _ ht hm)).trans (h.pin t id off ht hm), by
  obtain ⟨x, hx⟩ := h.defs
  obtain ⟨y, hy⟩ := k.defs
  exact ⟨y ++ x, by rw [hy, hx, List.append_assoc]⟩⟩
theorem Evol.mono {ws ws' : List Nat} {s s' : DS} {ρ ρ' : Nat → Nat} (h : Evol ws s s' ρ ρ') (hs : ∀ t ∈ ws, t ∈ ws') : Evol ws' s s' ρ ρ' :=
 ⟨fun t e ht => h.mem t e fun h' => ht (hs t h'), fun t id off ht => h.pin t id off fun h' => ht (hs t h'), h.defs⟩
theorem Evol.push {ws : List Nat} {s s' : DS} {ρ ρ' : Nat → Nat} (he : s'.env = s.env) (hd : s'.defs = s.defs) (hp : PinE s.env ρ ρ') : Evol ws s s' ρ ρ' :=
 ⟨fun t e _ hm => by rw [he]; exact hm, fun t id off _ hm => hp t id off hm, [], hd⟩
theorem Evol.cons {ws : List Nat} {s : DS} {ρ : Nat → Nat} (x : Nat × EV) : Evol ws s { s with env := x :: s.env } ρ ρ :=
 ⟨fun _ _ _ hm => List.mem_cons_of_mem _ hm, fun _ _ _ _ _ => rfl, [], rfl⟩
theorem Bn {n : Nat} {s : DS} {dst : Option Nat} {e : EV} {k : DS → Prop} {wi wi₀ : World} {F : List (Nat × LB)} {a : Act} {w w₀ : World} {ρ : Nat → Nat} (h : putE n s dst e k) (hr : Rel wi wi₀ n F s a w w₀ ρ) :
  ∃ s', k s' ∧ Rel wi wi₀ n F s' (a.put dst (conc ρ e)) w w₀ ρ ∧ (∀ ws, Evol ws s s' ρ ρ) ∧ s'.loc = s.loc := by
 cases dst with
 | none => exact ⟨s, h, hr, fun ws => Evol.refl ws s ρ, rfl⟩
 | some d =>
  obtain ⟨hd, hk⟩ := Ab h
  have : d < n := by simpa [Nat.blt_eq] using hd
  exact ⟨_, hk, hr.put d e this, fun ws => Evol.cons _, rfl⟩
theorem Et : ∀ (l : List Oper) (j : Nat), G3 l j = (l[j]?).bind (·.dst)
 | [], j => by cases j <;> simp [G3]
 | o :: _, 0 => by simp [G3]
 | _ :: r, j + 1 => by simp [G3, Et r j]
theorem Eu {o : Oper} {d : Nat} : ∀ {l : List Oper}, o ∈ l → o.dst = some d → d ∈ dsts l
 | u :: r, h, hd => by
  simp only [dsts]
  cases h with
  | head => rw [hd]; simp
  | tail _ h =>
   have := Eu h hd
   split
   ·exact List.mem_cons_of_mem _ this
   ·exact this
theorem Rel.lit {wi wi₀ : World} {n : Nat} {F : List (Nat × LB)} {s : DS} {a : Act} {w w₀ : World} {ρ : Nat → Nat} (hr : Rel wi wi₀ n F s a w w₀ ρ) {t : Nat} {b : Bool} (h : get s.env t = some (.val (.bool b))) : Rel wi wi₀ n F { s with env := (t, .lit b) :: s.env } a w w₀ ρ := by
 refine ⟨hr.size, hr.nodef, hr.hides, hr.kept, fun x e hx => ?_, hr.loc, hr.inj, hr.disj⟩
 rw [Av] at hx
 split at hx
 ·subst_vars
  simp only [Option.some.injEq] at hx; subst hx
  have := hr.env _ _ h
  exact this
 ·exact hr.env x e hx
theorem Ev {ops : Array Oper} {a : Act} {j t : Nat} {b : Bool} (hj : G3 ops.toList j = some t) (hv : a.tmps.getD t undef = .bool b) : yielded ops a.tmps j = some b := by
 rw [Et] at hj
 have h1 : (ops[j]?).bind (·.dst) = some t := by simpa using hj
 have h2 : a.tmps[t]? = some (.bool b) := by
  rw [Array.getD_eq_getD_getElem?] at hv
  cases hc : a.tmps[t]? with
  | none => rw [hc] at hv; simp [undef] at hv
  | some v => rw [hc] at hv; simp at hv; rw [hv]
 simp [yielded, h1, h2]
theorem Agree.putD {ws : List Nat} (a : Act) (l : List Deferred) (dst : Option Tmp) (v : Value) (h : ∀ d, dst = some d → d ∈ ws) : Agree ws a ({ a with defers := l }.put dst v) := by
 intro t ht
 cases dst with
 | none => rfl
 | some d => exact C3 _ _ _ _ fun e => ht (e ▸ h d rfl)
theorem H3 {n : Nat} {F : List (Nat × LB)} {o : Oper} {s : DS} {k : DS → World → Prop} {pn : List PanicEntry → World → Prop} {wi wi₀ w w₀ : World} {a : Act} {ρ : Nat → Nat} (h : Hq P H n F o s k pn w) (hr : Rel wi wi₀ n F s a w w₀ ρ) :
  (∃ d, (∃ c, o.op = .defer c) ∧ (execOp a.eval o).run P w₀ = .ok (.defer d) w₀ ∧ ∃ s'', k s'' w ∧ Rel wi wi₀ n F s'' ({ a with defers := d :: a.defers }.put o.dst undef) w w₀ ρ ∧ ∀ ws, Evol ws s s'' ρ ρ) ∨
  Al P H F o s (fun e s' w' => putE n s' o.dst e fun s'' => k s'' w') pn w := by
 unfold Hq at h
 split at h
 ·rename_i c hop
  left
  unfold Kj at h
  split at h
  ·rename_i f hc
   split at h
   ·rename_i vs hvs
    split at h
    ·rename_i g first captured hf
     have hev := Dt hr.env hf
     have hargs := Cy hr.env hvs
     refine ⟨⟨.fn (.func g) captured, (first.toList ++ vs).toArray⟩, ⟨c, hop⟩, ?_, ?_⟩
     ·have : c.args.map a.eval = vs.toArray := by
       apply Array.ext'
       rw [Array.toList_map]; exact hargs
      have e2 : (first.toList ++ vs).toArray = first ++ vs.toArray := by apply Array.ext'; simp
      simp only [execOp, hop, resolve, hc, hev, this, Deferred.ofValue, e2, Sem.run_bind, Sem.run_pure, Result.andThen_ok]
     ·have hr1 : Rel wi wi₀ n F { s with defs := ⟨.fn (.func g) captured, (first.toList ++ vs).toArray⟩ :: s.defs } { a with defers := ⟨.fn (.func g) captured, (first.toList ++ vs).toArray⟩ :: a.defers } w w₀ ρ :=
       ⟨hr.size, by show _ :: a.defers = _ :: s.defs; rw [hr.nodef], hr.hides, hr.kept, hr.env, hr.loc, hr.inj, hr.disj⟩
      obtain ⟨s'', hk, hr'', hv'', -⟩ := Bn h hr1
      exact ⟨s'', hk, hr'', fun ws => Evol.trans (s' := { s with defs := ⟨.fn (.func g) captured, (first.toList ++ vs).toArray⟩ :: s.defs }) ⟨fun _ _ _ h => h, fun _ _ _ _ _ => rfl, [⟨.fn (.func g) captured, (first.toList ++ vs).toArray⟩], rfl⟩ (hv'' ws)⟩
    ·exact h.elim
   ·exact h.elim
  ·exact h.elim
 ·exact .inr h
theorem Gv {n : Nat} {F : List (Nat × LB)} {ops : Array Oper} {K : Exit → DS → World → Prop} {wi wi₀ : World} {a₀ : Act} {s₀ : DS} {ρ₀ : Nat → Nat} {Q : Exit → Act → World → Prop}
  (hQ : ∀ e s' a' w' w₀' ρ', K e s' w' → Rel wi wi₀ n F s' a' w' w₀' ρ' → Agree (dsts ops.toList) a₀ a' → Evol (dsts ops.toList) s₀ s' ρ₀ ρ' → Q e a' w₀') :
  ∀ (l : List Oper) (s : DS) (a : Act) (w w₀ : World) (ρ : Nat → Nat), (∀ o ∈ l, o ∈ ops.toList) → Cb P H n F ops.toList K l s w → Rel wi wi₀ n F s a w w₀ ρ → Agree (dsts ops.toList) a₀ a → Evol (dsts ops.toList) s₀ s ρ₀ ρ → wpList P ops Q l a w₀
 | [], s, a, w, w₀, ρ, _, h, hr, ha, hv => hQ _ _ _ _ _ _ h hr ha hv
 | o :: rest, s, a, w, w₀, ρ, hm, h, hr, ha, hv => by
  have hmem : ∀ d, o.dst = some d → d ∈ dsts ops.toList := fun d hd => Eu (hm o (by simp)) hd
  have ih := Gv hQ rest
  have run : ∀ (s : DS), Evol (dsts ops.toList) s₀ s ρ₀ ρ → Rel wi wi₀ n F s a w w₀ ρ → Hq P H n F o s (fun s'' w' => Cb P H n F ops.toList K rest s'' w') (fun c w' => K (.panic c) s w') w →
    Region.wanted o (yielded ops a.tmps) = true → wpList P ops Q (o :: rest) a w₀ := by
   intro s hv hr hd hw
   unfold wpList
   rw [if_pos hw]
   rcases H3 hd hr with ⟨d, -, hx, s'', hk, hr'', hv''⟩ | hd
   ·refine .inl ?_
    unfold Oper.wp
    rw [hx]
    exact ih s'' _ w w₀ ρ (fun o ho => hm o (by simp [ho])) hk hr'' (ha.trans (Agree.putD _ _ _ _ hmem)) (hv.trans (hv'' _))
   refine .inl (H2 hd hr (fun e s' w' ρ' w₀' hk he hp _ _ hr' => ?_) (fun c w' w₀' hk hr' => hQ _ _ _ _ _ _ hk hr' ha hv))
   obtain ⟨s'', hk, hr'', hv'', _⟩ := Bn hk hr'
   exact ih s'' _ w' w₀' ρ' (fun o ho => hm o (by simp [ho])) hk hr'' (ha.trans (Agree.put _ _ _ hmem)) ((hv.trans (Evol.push he (hr'.nodef.symm.trans hr.nodef) hp)).trans (hv'' _))
  have skip : ∀ (s : DS), Evol (dsts ops.toList) s₀ s ρ₀ ρ → Rel wi wi₀ n F s a w w₀ ρ → putE n s o.dst (.val undef) (fun s' => Cb P H n F ops.toList K rest s' w) →
    Region.wanted o (yielded ops a.tmps) = false → wpList P ops Q (o :: rest) a w₀ := by
   intro s hv hr hd hw
   unfold wpList
   rw [if_neg (by rw [hw]; simp)]
   obtain ⟨s'', hk, hr'', hv'', _⟩ := Bn hd hr
   exact ih s'' _ w w₀ ρ (fun o ho => hm o (by simp [ho])) hk hr'' (ha.trans (Agree.put _ _ _ hmem)) (hv.trans (hv'' _))
  simp only [Cb] at h
  split at h
  ·rename_i hg
   exact run s hv hr h (by simp [Region.wanted, hg])
  ·rename_i j want hg
   split at h
   ·exact h.elim
   ·rename_i t ht
    have hw : ∀ b, a.tmps.getD t undef = .bool b → Region.wanted o (yielded ops a.tmps) = (b == want) := by
     intro b hb
     simp only [Region.wanted, hg, Ev ht hb]
     cases b <;> cases want <;> rfl
    split at h
    ·rename_i hget
     have hb := hr.env _ _ hget
     cases want
     ·exact skip s hv hr h (by rw [hw true hb]; rfl)
     ·exact run s hv hr h (by rw [hw true hb]; rfl)
    ·rename_i hget
     have hb := hr.env _ _ hget
     cases want
     ·exact run s hv hr h (by rw [hw false hb]; rfl)
     ·exact skip s hv hr h (by rw [hw false hb]; rfl)
    ·rename_i b hget
     obtain ⟨-, h1, h2⟩ := Ab h
     have hb := hr.env _ _ hget
     cases b
     ·have h2 := h2 rfl
      have hr' := hr.lit hget
      cases want
      ·exact run _ (hv.trans (Evol.cons _)) hr' h2 (by rw [hw false hb]; rfl)
      ·exact skip _ (hv.trans (Evol.cons _)) hr' h2 (by rw [hw false hb]; rfl)
     ·have h1 := h1 rfl
      have hr' := hr.lit hget
      cases want
      ·exact skip _ (hv.trans (Evol.cons _)) hr' h1 (by rw [hw true hb]; rfl)
      ·exact run _ (hv.trans (Evol.cons _)) hr' h1 (by rw [hw true hb]; rfl)
    ·rename_i x hget
     have hb := hr.env _ _ hget
     have hno : yielded ops a.tmps j = none := by
      rw [Et] at ht
      have h1 : (ops[j]?).bind (·.dst) = some t := by simpa using ht
      unfold yielded
      rw [h1]
      simp only [Option.bind_some]
      rw [Array.getD_eq_getD_getElem?] at hb
      cases hc : a.tmps[t]? with
      | none => rfl
      | some v => rw [hc] at hb; simp only [Option.getD_some, conc] at hb; rw [hb]
     exact skip s hv hr h (by simp only [Region.wanted, hg, hno]; rfl)
    ·exact h.elim
theorem Rel.same {wi wi₀ : World} {n : Nat} {F : List (Nat × LB)} {s : DS} {a : Act} {w w₀ w' w₀' : World} {ρ : Nat → Nat} (hr : Rel wi wi₀ n F s a w w₀ ρ) (h1 : w'.heap = w.heap) (h2 : w₀'.heap = w₀.heap) (hh : Ae w' w₀') : Rel wi wi₀ n F s a w' w₀' ρ :=
 ⟨hr.size, hr.nodef, hh, ⟨fun b hb => by rw [h1]; exact hr.kept.hid b hb, fun b hb => by rw [h2]; exact hr.kept.same b hb, by rw [h1]; exact hr.kept.size⟩, hr.env, fun id lb hl => by rw [h1, h2]; exact hr.loc id lb hl, hr.inj, hr.disj⟩
theorem Ew {n : Nat} {F : List (Nat × LB)} {ops : Array Oper} {K : DS → World → Prop} {wi wi₀ : World} {a₀ : Act} {s₀ : DS} {ρ : Nat → Nat} {w w₀ : World} {Q : Act → Prop}
  (hQ : ∀ s' a', K s' w → Rel wi wi₀ n F s' a' w w₀ ρ → Agree (dsts ops.toList) a₀ a' → Evol (dsts ops.toList) s₀ s' ρ ρ → Q a') :
  ∀ (l : List Oper) (s : DS) (a : Act), (∀ o ∈ l, o ∈ ops.toList) → Em H l = true → Cb P H n F ops.toList (fun e s' w' => match e with | .normal => K s' w' | _ => False) l s w → Rel wi wi₀ n F s a w w₀ ρ → Agree (dsts ops.toList) a₀ a → Evol (dsts ops.toList) s₀ s ρ ρ →
   wpQuiet P ops (fun w' => ∃ m, w' = w₀.drewN m) Q l a
 | [], s, a, _, _, h, hr, ha, hv => hQ _ _ h hr ha hv
 | o :: rest, s, a, hm, hqq, h, hr, ha, hv => by
  have hmem : ∀ d, o.dst = some d → d ∈ dsts ops.toList := fun d hd => Eu (hm o (by simp)) hd
  have hq : As H o = true ∧ Em H rest = true := by
   simp only [Em] at hqq
   cases hb : As H o
   ·rw [hb] at hqq; cases hqq
   ·rw [hb] at hqq; exact ⟨rfl, hqq⟩
  have ih := Ew hQ rest
  have run : ∀ (s : DS), Evol (dsts ops.toList) s₀ s ρ ρ → Rel wi wi₀ n F s a w w₀ ρ → Hq P H n F o s (fun s'' w' => Cb P H n F ops.toList (fun e s' w' => match e with | .normal => K s' w' | _ => False) rest s'' w') (fun _ _ => False) w →
    Region.wanted o (yielded ops a.tmps) = true → wpQuiet P ops (fun w' => ∃ m, w' = w₀.drewN m) Q (o :: rest) a := by
   intro s hv hr hd hw
   rcases H3 hd hr with ⟨d, ⟨c, hop⟩, -⟩ | hd
   ·have := hq.1; simp [As, hop] at this
   unfold wpQuiet
   rw [if_pos hw]
   obtain ⟨e, hk, hrun⟩ := Es hq.1 hd hr
   obtain ⟨s'', hk, hr'', hv'', _⟩ := Bn hk hr
   refine ⟨conc ρ e, fun w' ⟨m, hw'⟩ => ?_, ih s'' _ (fun o ho => hm o (by simp [ho])) hq.2 hk hr'' (ha.trans (Agree.put _ _ _ hmem)) (hv.trans (hv'' _))⟩
   subst hw'
   unfold Oper.quietAt
   rw [hrun (w₀.drewN m) (.of_heap rfl)]
   exact ⟨rfl, rfl⟩
  have skip : ∀ (s : DS), Evol (dsts ops.toList) s₀ s ρ ρ → Rel wi wi₀ n F s a w w₀ ρ → putE n s o.dst (.val undef) (fun s' => Cb P H n F ops.toList (fun e s' w' => match e with | .normal => K s' w' | _ => False) rest s' w) →
    Region.wanted o (yielded ops a.tmps) = false → wpQuiet P ops (fun w' => ∃ m, w' = w₀.drewN m) Q (o :: rest) a := by
   intro s hv hr hd hw
   unfold wpQuiet
   rw [if_neg (by rw [hw]; simp)]
   obtain ⟨s'', hk, hr'', hv'', _⟩ := Bn hd hr
   exact ih s'' _ (fun o ho => hm o (by simp [ho])) hq.2 hk hr'' (ha.trans (Agree.put _ _ _ hmem)) (hv.trans (hv'' _))
  simp only [Cb] at h
  split at h
  ·rename_i hg
   exact run s hv hr h (by simp [Region.wanted, hg])
  ·rename_i j want hg
   split at h
   ·exact h.elim
   ·rename_i t ht
    have hw : ∀ b, a.tmps.getD t undef = .bool b → Region.wanted o (yielded ops a.tmps) = (b == want) := by
     intro b hb
     simp only [Region.wanted, hg, Ev ht hb]
     cases b <;> cases want <;> rfl
    split at h
    ·rename_i hget
     have hb := hr.env _ _ hget
     cases want
     ·exact skip s hv hr h (by rw [hw true hb]; rfl)
     ·exact run s hv hr h (by rw [hw true hb]; rfl)
    ·rename_i hget
     have hb := hr.env _ _ hget
     cases want
     ·exact run s hv hr h (by rw [hw false hb]; rfl)
     ·exact skip s hv hr h (by rw [hw false hb]; rfl)
    ·rename_i b hget
     obtain ⟨-, h1, h2⟩ := Ab h
     have hb := hr.env _ _ hget
     cases b
     ·have h2 := h2 rfl
      have hr' := hr.lit hget
      cases want
      ·exact run _ (hv.trans (Evol.cons _)) hr' h2 (by rw [hw false hb]; rfl)
      ·exact skip _ (hv.trans (Evol.cons _)) hr' h2 (by rw [hw false hb]; rfl)
     ·have h1 := h1 rfl
      have hr' := hr.lit hget
      cases want
      ·exact skip _ (hv.trans (Evol.cons _)) hr' h1 (by rw [hw true hb]; rfl)
      ·exact run _ (hv.trans (Evol.cons _)) hr' h1 (by rw [hw true hb]; rfl)
    ·rename_i x hget
     have hb := hr.env _ _ hget
     have hno : yielded ops a.tmps j = none := by
      rw [Et] at ht
      have h1 : (ops[j]?).bind (·.dst) = some t := by simpa using ht
      unfold yielded
      rw [h1]
      simp only [Option.bind_some]
      rw [Array.getD_eq_getD_getElem?] at hb
      cases hc : a.tmps[t]? with
      | none => rfl
      | some v => rw [hc] at hb; simp only [Option.getD_some, conc] at hb; rw [hb]
     exact skip s hv hr h (by simp only [Region.wanted, hg, hno]; rfl)
    ·exact h.elim
end
end Go.Sx
