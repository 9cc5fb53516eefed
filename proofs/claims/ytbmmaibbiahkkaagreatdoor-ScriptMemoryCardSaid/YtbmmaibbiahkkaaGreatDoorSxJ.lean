/- A function's contract out of what is asked of its text. Conditions: none. -/
import Derived.Test.YtbmmaibbiahkkaaGreatDoorSxI
namespace Go.Sx
set_option linter.unusedSimpArgs false
section
variable {P : Program} {H : Dq}
def Ret (k : Value → World → Prop) (pn : List PanicEntry → World → Prop) (e : Ending) (w : World) : Prop :=
 match e with
 | .returned u => k u w
 | .panicked c => pn c w
 | .outgrown => False
def RetR (R : Ending → World → Prop) (k : Value → World → Prop) : Ending → World → Prop := Ret k fun c w => R (.panicked c) w
def Fy (tmps : Array Value) : ResultVar → Sem Value
 | .tmp t => pure (tmps.getD t undef)
 | .cell a t => do loadVar t (← asAddr (tmps.getD a undef))
theorem H6 (fn : Func) (tmps : Array Value) : results fn tmps = (do let vs ← List.mapM (Fy tmps) fn.results.toList; pure (Fv vs)) := by
 unfold results
 have h1 : (fun x : ResultVar => match x with
   | .tmp t => (pure (tmps.getD t undef) : Sem Value)
   | .cell a t => do loadVar t (← asAddr (tmps.getD a undef))) = Fy tmps := by
  funext x; cases x <;> rfl
 show (do let vs ← fn.results.mapM (fun x : ResultVar => match x with
   | .tmp t => (pure (tmps.getD t undef) : Sem Value)
   | .cell a t => do loadVar t (← asAddr (tmps.getD a undef))); pure (if h : vs.size = 1 then vs[0] else .tuple vs)) = _
 rw [h1, Array.mapM_eq_mapM_toList]
 simp only [map_eq_pure_bind, bind_assoc, pure_bind]
 congr 1
 funext vs
 congr 1
 cases vs with
 | nil => rfl
 | cons v r =>
  cases r with
  | nil => rfl
  | cons u r => rfl
theorem Gy {s : DS} {wi wi₀ : World} {n : Nat} {a : Act} {w w₀ : World} {ρ : Nat → Nat} (hr : Rel wi wi₀ n [] s a w w₀ ρ) : ∀ (l : List ResultVar) (k : List Value → Prop), Bp P s [] w l k → ∃ vs, (List.mapM (Fy a.tmps) l).run P w₀ = .ok vs w₀ ∧ k vs
 | [], k, h => ⟨[], rfl, h⟩
 | .tmp t :: r, k, h => by
  simp only [Bp] at h
  split at h
  ·rename_i e he
   split at h
   ·rename_i v hv
    obtain ⟨vs, h1, h2⟩ := Gy hr r _ h
    refine ⟨v :: vs, ?_, h2⟩
    simp only [List.mapM_cons, Fy, pure_bind, Sem.run_bind, h1, Result.andThen_ok, Sem.run_pure, hr.env t e he, F9 hv]
   ·exact h.elim
  ·exact h.elim
 | .cell x t :: r, k, h => by
  simp only [Bp] at h
  have fin : ∀ (ad : Addr) (v : Value), a.eval (.tmp x) = .pointer (some ad) → (loadVar t ad).run P w₀ = .ok v w₀ → Bp P s [] w r (fun vs => k (v :: vs)) → ∃ vs, (List.mapM (Fy a.tmps) (.cell x t :: r)).run P w₀ = .ok vs w₀ ∧ k vs := by
   intro ad v he hrun hk
   obtain ⟨vs, h1, h2⟩ := Gy hr r _ hk
   have he' : a.tmps.getD x undef = .pointer (some ad) := he
   exact ⟨v :: vs, by simp only [List.mapM_cons, Fy, he', asAddr, pure_bind, Sem.run_bind, hrun, h1, Result.andThen_ok, Sem.run_pure], h2⟩
  have ld : ∀ (o : Oper) (kk : EV → DS → World → Prop), o.op = .load t (.tmp x) → Al P {} [] o s kk (fun _ _ => False) w → ∃ v, kk v s w ∧ ∃ ad, a.eval (.tmp x) = .pointer (some ad) ∧ (loadVar t ad).run P w₀ = .ok (conc ρ v) w₀ := by
   intro o kk ho hd
   obtain ⟨e, hke, hrun⟩ := H1 ho hd hr
   have := hrun w₀ (.of_heap rfl)
   simp only [execOp, ho, Sem.run_bind, Sem.run_pure, Instr.loadAt] at this
   have hd' := hd
   simp only [Al, ho] at hd'
   rcases Cc hr.env hd' with ⟨id, off, he, _⟩ | ⟨ad, he, _⟩
   ·refine ⟨e, hke, _, he, ?_⟩
    rw [he] at this
    simp only [Instr.sureAddr, Sem.run_pure, Result.andThen_ok] at this
    cases hl : (loadVar t ⟨ρ id, off, none⟩).run P w₀ with
    | ok v w1 => rw [hl] at this; simp only [Result.andThen_ok, Result.ok.injEq, Next.value.injEq] at this; rw [this.1, this.2]
    | halt h w1 => rw [hl] at this; simp only [Result.andThen_halt] at this; cases this
   ·refine ⟨e, hke, _, he, ?_⟩
    rw [he] at this
    simp only [Instr.sureAddr, Sem.run_pure, Result.andThen_ok] at this
    cases hl : (loadVar t ad).run P w₀ with
    | ok v w1 => rw [hl] at this; simp only [Result.andThen_ok, Result.ok.injEq, Next.value.injEq] at this; rw [this.1, this.2]
    | halt h w1 => rw [hl] at this; simp only [Result.andThen_halt] at this; cases this
  let o : Oper := { dst := none, op := .load t (.tmp x), type := 0, pos := "", after := #[], guard := none }
  have hd : Al P {} [] o s (fun e _ _ => ∃ v, e = .val v ∧ Bp P s [] w r fun vs => k (v :: vs)) (fun _ _ => False) w := by
   simp only [Al, o]
   unfold addrOf at h ⊢
   split
   ·rename_i id off ho
    rw [ho] at h
    simp only at h
    split at h
    ·rename_i h1 h2
     simp only [h1, h2]
     split at h
     ·rename_i h3; simp only [h3]; exact ⟨_, rfl, h⟩
     ·exact h.elim
    ·rename_i h1 h2
     simp only [h1, h2]
     split at h
     ·rename_i h3; simp only [h3]
      obtain ⟨g1, g2⟩ := Ab h
      rw [g1]; exact ⟨_, rfl, g2⟩
     ·exact h.elim
    ·exact h.elim
   ·rename_i p ho
    rw [ho] at h
    simp only at h
    obtain ⟨ad, rfl, hk⟩ := Cr h
    show (match aggB P t, zeroOf P t, sizeOf P t with
     | some false, some z, _ => exV (SV.of z) fun v => w.cell? ad = some v ∧ ∃ v', EV.val v = .val v' ∧ Bp P s [] w r fun vs => k (v' :: vs)
     | some true, some (.agg cs), some n => Aj (Nat.beq cs.toList.length n) (ex1L (S1.ofL cs.toList) fun vs => Ah w ad 0 vs ∧ ∃ v', EV.val (.agg vs.toArray) = .val v' ∧ Bp P s [] w r fun vs => k (v' :: vs))
     | _, _, _ => False)
    have e1 : ∀ (s1 : S1) (φ ψ : Value → Prop), (∀ v, φ v → ψ v) → ex1 s1 φ → ex1 s1 ψ := by
     intro s1 φ ψ hh hx
     cases s1 <;> simp only [ex1] at hx ⊢
     all_goals first
      | (obtain ⟨x, hx⟩ := hx; exact ⟨x, hh _ hx⟩)
      | (obtain ⟨x, y, z, hx⟩ := hx; exact ⟨x, y, z, hh _ hx⟩)
    have e1L : ∀ (l : List S1) (φ ψ : List Value → Prop), (∀ v, φ v → ψ v) → ex1L l φ → ex1L l ψ := by
     intro l
     induction l with
     | nil => intro φ ψ hh hx; exact hh _ hx
     | cons x r ih => intro φ ψ hh hx; exact e1 x _ _ (fun v hv => ih _ _ (fun vs hvs => hh _ hvs) hv) hx
    have eV : ∀ (s1 : SV) (φ ψ : Value → Prop), (∀ v, φ v → ψ v) → exV s1 φ → exV s1 ψ := by
     intro s1 φ ψ hh hx
     cases s1 with
     | one s => exact e1 s _ _ hh hx
     | agg l => exact e1L l _ _ (fun vs hvs => hh _ hvs) hx
    split at hk
    ·rename_i h1 h2; simp only [h1, h2]
     exact eV _ _ _ (fun v hv => ⟨hv.1, v, rfl, hv.2⟩) hk
    ·rename_i h1 h2 h3; simp only [h1, h2, h3]
     obtain ⟨g1, g2⟩ := Ab hk
     rw [g1]
     exact e1L _ _ _ (fun v hv => ⟨hv.1, _, rfl, hv.2⟩) g2
    ·exact hk.elim
   ·rename_i h1 h2
    split at h
    ·rename_i id off ho; exact absurd ho (h1 _ _)
    ·rename_i p ho; exact absurd ho (h2 _)
    ·exact h.elim
  obtain ⟨e, ⟨v, rfl, hk⟩, ad, he, hrun⟩ := ld o _ rfl hd
  exact fin ad v he hrun hk
theorem Gz : ∀ (args : List Value) (i t : Nat) (e : EV), get (G4 i args) t = some e → i ≤ t ∧ ∃ v, args[t - i]? = some v ∧ e = .val v
 | [], i, t, e, h => by simp [G4, get] at h
 | v :: r, i, t, e, h => by
  simp only [G4, Av] at h
  split at h
  ·subst_vars
   simp only [Option.some.injEq] at h; subst h
   exact ⟨Nat.le_refl _, v, by simp, rfl⟩
  ·obtain ⟨h1, u, h2, h3⟩ := Gz r (i + 1) t e h
   refine ⟨by omega, u, ?_, h3⟩
   rw [show t - i = (t - (i + 1)) + 1 from by omega]; simpa using h2
theorem Gg {fn : Func} {R : Ending → World → Prop} {s : DS} {wi wi₀ : World} {n : Nat} {a : Act} {ρ : Nat → Nat} : ∀ (ds : List Deferred) (u : Option (List PanicEntry)) (w w₀ : World), Ep P fn R s ds u w → Rel wi wi₀ n [] s a w w₀ ρ →
  Leaves P fn a.tmps (fun e w₀' => ∃ w', Ae w' w₀' ∧ Kept wi wi₀ w' w₀' ∧ R e w') ds (Bt u) w₀
 | [], none, w, w₀, h, hr => by
  obtain ⟨vs, h1, h2⟩ := Gy hr _ _ h
  refine ⟨Fv vs, ?_, w, hr.hides, hr.kept, h2⟩
  rw [H6]; simp only [Sem.run_bind, h1, Result.andThen_ok, Sem.run_pure]
 | [], some c, w, w₀, h, hr => ⟨w, hr.hides, hr.kept, h⟩
 | d :: ds, u, w, w₀, h, hr => by
  obtain ⟨g, cap, dargs, rfl, hE, hc⟩ := h.out
  refine leaves_cons (f := g) (args := dargs ++ cap) (by cases u <;> simp [Bt]) (Bs hE _ w₀) ((hc w₀ hr.hides).mono fun e u' w₀' hk => ?_)
  cases e with
  | returned v =>
   obtain ⟨u'', w', hu, h1, h2, h3⟩ := hk
   show Leaves P fn a.tmps _ ds (settle u') w₀'
   rw [hu]
   exact Gg ds u'' w' w₀' h3 (hr.step h1 h2)
  | panicked c => exact hk.elim
  | outgrown => exact hk.elim
theorem My (hmix : P.follows .mixedOrders = true) {f : FuncId} {fn : Func} {args : List Value} {R : Ending → World → Prop} {w : World}
  (hf : P.funcs[f]? = some fn) (hE : (fn.name == "runtime.NumGoroutine") = false) (hn : Nat.ble args.length fn.ntmps = true) (h : Nx P H fn args R w) : Aa P f args w R := by
 unfold Nx at h
 split at h
 case h_2 => exact h.elim
 rename_i c hb
 refine .mk <| .inl ⟨⟨fn, hf, by simp [hb], hE⟩, fun w₀ hw => ?_⟩
 have hle : args.length ≤ fn.ntmps := Nat.le_of_ble_eq_true hn
 refine calls_of_wp_defers hf hb ?_
 have hr : Rel w w₀ fn.ntmps [] { env := G4 0 args, loc := [] } { tmps := args.toArray ++ Array.replicate (fn.ntmps - args.toArray.size) undef, defers := [] } w w₀ (fun i => i) := by
  refine ⟨by simp; omega, rfl, hw, Kept.refl _ _, fun t e he => ?_, fun id lb hl => by simp [getL, get] at hl, fun id id' lb lb' hl => by simp [getL, get] at hl, fun id lb hl => by simp [get] at hl⟩
  obtain ⟨-, v, hv, rfl⟩ := Gz args 0 t e he
  have hlt : t < args.length := by
   rcases Nat.lt_or_ge t args.length with h' | h'
   ·exact h'
   ·rw [List.getElem?_eq_none (by omega)] at hv; cases hv
  simp only [Nat.sub_zero] at hv
  simp only [Array.getD_eq_getD_getElem?, Array.getElem?_append, List.size_toArray, hlt, if_true, List.getElem?_toArray, hv]
  rfl
 refine Gx hmix c [] _ _ w _ w₀ _ _ h hr fun e s' a' w' w₀' ρ' hk hr' _ _ => ?_
 have done : ∀ u, Ep P fn R s' s'.defs u w' → Leaves P fn a'.tmps (fun e w₀' => ∃ w', Ae w' w₀' ∧ Kept w w₀ w' w₀' ∧ R e w') a'.defers (Bt u) w₀' := by
  intro u hk
  rw [hr'.nodef]
  exact Gg _ _ _ _ hk hr'
 cases e with
 | normal => exact done none hk
 | ret => exact done none hk
 | panic c => exact done (some c) hk
 | exit id => exact hk.elim
 | goto l => exact hk.elim
 | outgrown => exact hk.elim
theorem Aa.calls {f : FuncId} {args : List Value} {R : Ending → World → Prop} {w : World} (hE : Enters P f) (h : Aa P f args w R) : Calls P f args.toArray w fun e w₀' => ∃ w', Ae w' w₀' ∧ Kept w w w' w₀' ∧ R e w' := by
 rcases h.out with h | h
 ·exact h.2 w (Ae.refl w)
 ·obtain ⟨nx, w₀', w', hrun, -, -, v, rfl, -⟩ := h w (Ae.refl w)
  rw [Bs hE] at hrun
  cases hrun
theorem Dn {f : FuncId} {fn : Func} {args : List Value} {w : World} {R : Ending → World → Prop} (hf : P.funcs[f]? = some fn) (hN : (fn.name == "runtime.NumGoroutine") = false) (hb : fn.body.isNone = true)
  (hnx : (Extern.findNext fn).isNone = true) {e : Array Value → Sem Value} (hx : Extern.find fn = some e) (h : SemW P (e args.toArray) (fun v w' => R (.returned v) w') w) : Aa P f args w R := by
 refine .mk <| .inr fun w₀ hw => ?_
 obtain ⟨v, w₀', w', h1, h2, h3, h4⟩ := h w₀ hw
 refine ⟨.value v, w₀', w', ?_, h2, h3, v, rfl, h4⟩
 rw [Option.isNone_iff_eq_none] at hnx
 simp only [callFunc, Sem.run_bind, run_program, Result.andThen_ok, hf, hN, Bool.false_eq_true, if_false, hb, if_true, hnx, hx, Sem.run_pure, mark, Sem.run, h1]
abbrev ifB (b : Bool) (A B : Prop) : Prop := (b = true → A) ∧ (b = false → B)
def ol : List Nat → Ord → Ord
 | [], t => t
 | x :: r, t => .cons x (ol r t)
theorem okOf (H : Dq) (hmix : P.follows .mixedOrders = true) {f : FuncId} {fn : Func} {args : List Value} {R : Ending → World → Prop} {w : World} {X : Prop}
  (hf : P.funcs[f]? = some fn) (hE : (fn.name == "runtime.NumGoroutine") = false) (hn : Nat.ble args.length fn.ntmps = true) (e : Nx P H fn args R w = X) (h : X) : Aa P f args w R :=
 My hmix hf hE hn (Eq.mpr e h)
end
end Go.Sx
