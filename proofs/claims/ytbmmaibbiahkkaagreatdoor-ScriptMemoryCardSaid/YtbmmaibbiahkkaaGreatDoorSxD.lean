/- What is asked of an operation suffices. Conditions: none. -/
import Derived.Test.YtbmmaibbiahkkaaGreatDoorSxC
namespace Go.Sx
set_option linter.unusedSimpArgs false
def conc (ρ : Nat → Nat) : EV → Value
 | .val v => v
 | .lit b => .bool b
 | .loc id off => .pointer (some ⟨ρ id, off, none⟩)
structure Rel (wi wi₀ : World) (n : Nat) (F : List (Nat × LB)) (s : DS) (a : Act) (w w₀ : World) (ρ : Nat → Nat) : Prop where
 size : a.tmps.size = n
 nodef : a.defers = s.defs
 hides : Ae w w₀
 kept : Kept wi wi₀ w w₀
 env : ∀ t e, get s.env t = some e → a.tmps.getD t undef = conc ρ e
 loc : ∀ id lb, getL s F id = some lb → wi.heap.size ≤ ρ id ∧ w₀.heap[ρ id]? = some (.cells lb.cells.toArray lb.ty (0, 0)) ∧ w.heap[ρ id]? = some hole
 inj : ∀ id id' lb lb', getL s F id = some lb → getL s F id' = some lb' → ρ id = ρ id' → id = id'
 disj : ∀ id lb, get F id = some lb → get s.loc id = none
def PinE (env : List (Nat × EV)) (ρ ρ' : Nat → Nat) : Prop := ∀ t id off, (t, EV.loc id off) ∈ env → ρ' id = ρ id
theorem PinE.refl (env : List (Nat × EV)) (ρ : Nat → Nat) : PinE env ρ ρ := fun _ _ _ _ => rfl
theorem C2 {a b : Nat} (h : Nat.beq a b = true) : a = b := Nat.eq_of_beq_eq_true h
theorem Av {α : Type} (j t : Nat) (v : α) (r : List (Nat × α)) : get ((j, v) :: r) t = if j = t then some v else get r t := by
  simp only [get]
  by_cases h : j = t
  · subst h; simp
  · rw [if_neg h]
    have : Nat.beq j t = false := by cases hb : Nat.beq j t; · rfl
                                     · exact absurd (C2 hb) h
    rw [this]; rfl
theorem get_mem {α : Type} : ∀ {l : List (Nat × α)} {t : Nat} {v : α}, get l t = some v → (t, v) ∈ l
 | (j, u) :: r, t, v, h => by
  rw [Av] at h
  split at h
  ·subst_vars; simp only [Option.some.injEq] at h; subst h; simp
  ·exact List.mem_cons_of_mem _ (get_mem h)
 | [], t, v, h => by simp [get] at h
theorem Bq {l : List Nat} {t : Nat} : Be l t = true ↔ t ∈ l := by
 induction l with
 | nil => simp [Be]
 | cons j r ih =>
  simp only [Be]
  cases hb : Nat.beq j t
  ·have : j ≠ t := fun h => by subst h; simp at hb
   simp [ih, Ne.symm this]
  ·have := C2 hb; simp [this]
theorem Bu {α : Type} (l : List Nat) (e : List (Nat × α)) (t : Nat) : get (drop l e) t = if t ∈ l then none else get e t := by
 induction e with
 | nil => simp [drop, get]
 | cons x r ih =>
  obtain ⟨j, v⟩ := x
  simp only [drop]
  cases hb : Be l j
  ·have hj : j ∉ l := fun h => by rw [Bq.2 h] at hb; cases hb
   simp only [cond_false, Av, ih]
   by_cases h : j = t
   ·subst h; simp [hj]
   ·simp [h]
  ·have hj := Bq.1 hb
   simp only [cond_true, ih, Av]
   by_cases h : j = t
   ·subst h; simp [hj]
   ·simp [h]
theorem get_append {α : Type} (x y : List (Nat × α)) (t : Nat) : get (x ++ y) t = match get x t with | some v => some v | none => get y t := by
 induction x with
 | nil => rfl
 | cons p r ih =>
  obtain ⟨j, v⟩ := p
  simp only [List.cons_append, Av, ih]
  split <;> rfl
theorem Ab {b : Bool} {p : Prop} (h : Aj b p) : b = true ∧ p := by
 cases b
 ·exact h.elim
 ·exact ⟨rfl, h⟩
section
variable {P : Program} {H : Dq}
theorem A2 {env : List (Nat × EV)} {a : Act} {ρ : Nat → Nat} (henv : ∀ t e, get env t = some e → a.tmps.getD t undef = conc ρ e) {x : Operand} {e : EV} (h : ope env x = some e) : a.eval x = conc ρ e := by
 cases x with
 | tmp t => exact henv t e h
 | const v =>
  cases v <;> simp only [ope, Option.some.injEq] at h <;> subst h <;> rfl
 | global g => simp only [ope, Option.some.injEq] at h; subst h; rfl
 | func f => simp only [ope, Option.some.injEq] at h; subst h; rfl
theorem F9 {ρ : Nat → Nat} {e : EV} {v : Value} (h : e.toV = some v) : conc ρ e = v := by
 cases e <;> simp only [EV.toV, Option.some.injEq] at h <;> first | (subst h; rfl) | cases h
theorem Dt {env : List (Nat × EV)} {a : Act} {ρ : Nat → Nat} (henv : ∀ t e, get env t = some e → a.tmps.getD t undef = conc ρ e) {x : Operand} {v : Value} (h : opv env x = some v) : a.eval x = v := by
 unfold opv at h
 cases ho : ope env x with
 | none => rw [ho] at h; cases h
 | some e => rw [ho] at h; rw [A2 henv ho]; exact F9 h
theorem Cy {env : List (Nat × EV)} {a : Act} {ρ : Nat → Nat} (henv : ∀ t e, get env t = some e → a.tmps.getD t undef = conc ρ e) : ∀ {xs : List Operand} {vs : List Value}, opvs env xs = some vs → xs.map a.eval = vs
 | [], _, h => by simp only [opvs, Option.some.injEq] at h; subst h; rfl
 | x :: r, vs, h => by
  simp only [opvs] at h
  cases hx : opv env x with
  | none => rw [hx] at h; cases h
  | some v =>
   rw [hx] at h; simp only at h
   cases hr : opvs env r with
   | none => rw [hr] at h; cases h
   | some us =>
    rw [hr] at h; simp only [Option.some.injEq] at h; subst h
    simp only [List.map_cons, Dt henv hx, Cy henv hr]
theorem Dk {env : List (Nat × EV)} {a : Act} {ρ : Nat → Nat} (henv : ∀ t e, get env t = some e → a.tmps.getD t undef = conc ρ e) : ∀ {xs : List (Nat × Operand)} {vs : List (Nat × Value)}, C0 env xs = some vs → xs.map (fun p => (p.1, a.eval p.2)) = vs
 | [], _, h => by simp only [C0, Option.some.injEq] at h; subst h; rfl
 | (i, x) :: r, vs, h => by
  simp only [C0] at h
  cases hx : opv env x with
  | none => rw [hx] at h; cases h
  | some v =>
   rw [hx] at h; simp only at h
   cases hr : C0 env r with
   | none => rw [hr] at h; cases h
   | some us =>
    rw [hr] at h; simp only [Option.some.injEq] at h; subst h
    simp only [List.map_cons, Dt henv hx, Dk henv hr]
theorem Br {α β : Type} (f : α → β) (xs : Array α) (vs : List β) (h : xs.toList.map f = vs) : xs.map f = vs.toArray := by
 rw [← h]; apply Array.ext'; simp
theorem Hw {env : List (Nat × EV)} {a : Act} {ρ : Nat → Nat} (henv : ∀ t e, get env t = some e → a.tmps.getD t undef = conc ρ e) {o : Oper} {m : Sem Value} (h : Nt env o = some m) : execOp a.eval o = (do pure (Next.value (← m))) := by
 unfold Nt at h
 have ev : ∀ {x : Operand} {v : Value}, opv env x = some v → a.eval x = v := fun h => Dt henv h
 split at h <;> rename_i ho <;> unfold execOp <;> simp only [ho]
 all_goals
  first
  | (cases h; done)
  | (split at h <;> first
    | (cases h; done)
    | (split at h <;> first
      | (cases h; done)
      | (rename_i h1 _ _ h2; simp only [Option.some.injEq] at h; subst h; rw [ev h1, ev h2]))
    | (rename_i h1; simp only [Option.some.injEq] at h; subst h; rw [ev h1]))
  | skip
 case _ =>
  rename_i t ps
  split at h <;> first | (cases h; done) | skip
  rename_i vs h1
  simp only [Option.some.injEq] at h; subst h
  rw [Br _ ps vs (Dk henv h1)]
 case _ =>
  rename_i fn fs cs
  split at h <;> first | (cases h; done) | skip
  rename_i us h1
  split at h <;> first | (cases h; done) | skip
  rename_i vs h2
  simp only [Option.some.injEq] at h; subst h
  rw [Br _ fs us (Cy henv h1), Br _ cs vs (Cy henv h2)]
 case _ => simp only [Option.some.injEq] at h; subst h; rfl
 case _ =>
  rename_i b args argTypes
  split at h <;> first | (cases h; done) | skip
  rename_i vs h1
  have hv := Br _ args vs (Cy henv h1)
  split at h <;> first | (cases h; done) | skip
  all_goals
   simp only [Option.some.injEq] at h; subst h
   simp only [resolve, pure_bind, invoke, builtin, hv]
theorem Ad {t : TypeId} {d : TypeDesc} (h : P.underlying t = some d) (w : World) : (underlying t).run P w = .ok d w := by
 simp [underlying, h]
theorem Hy {t : TypeId} {b : Bool} (h : aggB P t = some b) (w : World) : (isAgg t).run P w = .ok b w := by
 unfold aggB at h
 unfold isAgg
 cases hu : P.underlying t with
 | none => rw [hu] at h; cases h
 | some d =>
  rw [hu] at h
  simp only [Sem.run_bind, Ad hu, Result.andThen_ok]
  cases d <;> simp only [Option.some.injEq] at h <;> subst h <;> rfl
theorem Aq {t : TypeId} {n : Nat} (h : sizeOf P t = some n) (w : World) : (Go.sizeOf t).run P w = .ok n w := by
 unfold sizeOf at h
 cases hi : P.info? t with
 | none => rw [hi] at h; cases h
 | some i => rw [hi] at h; simp only [Option.some.injEq] at h; subst h; simp [Go.sizeOf, typeInfo, hi]
theorem Er {t : TypeId} {z : Value} (h : zeroOf P t = some z) (w : World) : (zeroValue t).run P w = .ok z w := by
 unfold zeroOf at h
 cases hi : P.info? t with
 | none => rw [hi] at h; cases h
 | some i => rw [hi] at h; simp only at h; simp [zeroValue, typeInfo, hi, h]
theorem Ci {w : World} {a : Addr} : ∀ {vs : List Value} {i : Nat}, Ah w a i vs → ∀ j v, vs[j]? = some v → w.cell? (a.add (i + j)) = some v
 | [], _, _, j, v, h => by simp at h
 | u :: r, i, hc, 0, v, h => by simp at h; subst h; exact hc.1
 | u :: r, i, hc, j + 1, v, h => by
  have := Ci hc.2 j v (by simpa using h)
  rw [show i + (j + 1) = i + 1 + j from by omega]; exact this
theorem Bf {t : TypeId} (hb : aggB P t = some false) {ad : Addr} {v : Value} {w : World} (hc : w.cell? ad = some v) : (loadVar t ad).run P w = .ok v w := by
 unfold loadVar
 simp only [Sem.run_bind, Hy hb, Result.andThen_ok, Bool.false_eq_true, if_false, run_load, hc]
theorem Cm {t : TypeId} (hb : aggB P t = some true) {n : Nat} (hn : sizeOf P t = some n) {ad : Addr} {vs : List Value} {w : World} (hl : vs.length = n) (hc : Ah w ad 0 vs) : (loadVar t ad).run P w = .ok (.agg vs.toArray) w := by
 unfold loadVar
 simp only [Sem.run_bind, Hy hb, Result.andThen_ok, if_true, Aq hn, Sem.run_pure]
 have := run_loadCells_list (P := P) (w := w) ad vs (fun j v h => by have := Ci hc j v h; simpa using this)
 rw [← hl, this]; rfl
theorem Kk : ∀ {l : List Value} {i : Nat}, nthL l i = l[i]?
 | [], _ => by simp [nthL]
 | _ :: _, 0 => by simp [nthL]
 | _ :: r, i + 1 => by simp only [nthL, List.getElem?_cons_succ]; exact Kk
theorem Hz : ∀ (n : Nat) (l : List Value), F8 n l = l.take n
 | 0, _ => by simp [F8]
 | _ + 1, [] => by simp [F8]
 | n + 1, c :: r => by simp [F8, Hz n r]
theorem Ga : ∀ (n : Nat) (l : List Value), El n l = l.drop n
 | 0, _ => by simp [El]
 | _ + 1, [] => by simp [El]
 | n + 1, _ :: r => by simp [El, Ga n r]
theorem cell_of_block {w : World} {b o : Nat} {cs : List Value} {T : TypeId} {fr : Nat × Nat} (h : w.heap[b]? = some (.cells cs.toArray T fr)) : w.cell? ⟨b, o, none⟩ = cs[o]? := by
 simp [World.cell?, h]
theorem H0 {w : World} {b : Nat} {cs : List Value} {T : TypeId} {fr : Nat × Nat} (h : w.heap[b]? = some (.cells cs.toArray T fr)) (off : Nat) : ∀ (vs : List Value) (i : Nat), (∀ j v, vs[j]? = some v → cs[off + i + j]? = some v) → Ah w ⟨b, off, none⟩ i vs
 | [], _, _ => trivial
 | v :: r, i, hv => by
  refine ⟨?_, H0 h off r (i + 1) fun j u hj => ?_⟩
  ·have := hv 0 v (by simp)
   rw [show (⟨b, off, none⟩ : Addr).add i = ⟨b, off + i, none⟩ from by unfold Addr.add; split <;> simp_all, cell_of_block h]
   simpa using this
  ·have := hv (j + 1) u (by simpa using hj)
   rw [show off + (i + 1) + j = off + i + (j + 1) from by omega]; exact this
theorem Cc {env : List (Nat × EV)} {a : Act} {ρ : Nat → Nat} (henv : ∀ t e, get env t = some e → a.tmps.getD t undef = conc ρ e) {x : Operand} {p : Nat → Nat → Prop} {q : Addr → Prop} (h : addrOf env x p q) :
  (∃ id off, a.eval x = .pointer (some ⟨ρ id, off, none⟩) ∧ p id off) ∨ (∃ ad, a.eval x = .pointer (some ad) ∧ q ad) := by
 unfold addrOf at h
 split at h
 ·rename_i id off ho; exact .inl ⟨id, off, A2 henv ho, h⟩
 ·rename_i p ho
  obtain ⟨ad, rfl, hk⟩ := Cr h
  exact .inr ⟨ad, A2 henv ho, hk⟩
 ·exact h.elim
theorem Bj (b off n : Nat) : (⟨b, off, none⟩ : Addr).add n = ⟨b, off + n, none⟩ := by
 unfold Addr.add; split
 ·subst_vars; rfl
 ·rfl
theorem A4 {ρ : Nat → Nat} {o : Oper} {v : Value} {k : EV → Prop} (h : B4 H o v k) : ∃ e, conc ρ e = v ∧ k e := by
 unfold B4 at h
 split at h
 ·split at h
  ·exact ⟨_, rfl, h⟩
  ·exact ⟨_, rfl, h⟩
  ·exact h.elim
 ·split at h
  ·exact ⟨_, rfl, h⟩
  ·split at h
   ·exact ⟨_, rfl, h _ rfl⟩
   ·exact h.elim
theorem Du {t : TypeId} {φ : Value → Prop} (h : shape P t φ) : ∃ v, φ v := by
 unfold shape at h
 split at h
 ·exact Pf h
 ·exact h.elim
theorem G5 {o : Oper} {s : DS} {k : EV → DS → World → Prop} {w : World} {a : Act} {ρ : Nat → Nat} (henv : ∀ t e, get s.env t = some e → a.tmps.getD t undef = conc ρ e) (hs : Cg H o = false) (h : Ca P H o s k w) :
  ∃ e, k e s w ∧ ∀ w₁, (execOp a.eval o).run P w₁ = .ok (.value (conc ρ e)) w₁ := by
 unfold Ca at h
 split at h
 ·exact h.elim
 ·rename_i m hm
  have hx := Hw henv hm
  split at h
  ·obtain ⟨v, h1, h2⟩ := Du h
   obtain ⟨e, he, hk⟩ := A4 (ρ := ρ) h2
   exact ⟨e, hk, fun w₁ => by rw [hx, he]; simp only [Sem.run_bind, h1 w₁, Result.andThen_ok, Sem.run_pure]⟩
  ·rw [hs] at h
   simp only at h
   split at h
   ·rename_i v hv
    obtain ⟨e, he, hk⟩ := A4 (ρ := ρ) h
    exact ⟨e, hk, fun w₁ => by rw [hx, he]; simp only [Sem.run_bind, Ek hv w₁, Result.andThen_ok, Sem.run_pure]⟩
   ·exact h.elim
end
end Go.Sx
