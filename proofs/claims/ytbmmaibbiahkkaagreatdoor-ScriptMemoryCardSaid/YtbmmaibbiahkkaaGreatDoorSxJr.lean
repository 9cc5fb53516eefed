/- A deferred call's contract out of what is asked of its text, what 'recover' yields told. Conditions: none. -/
import Derived.Test.YtbmmaibbiahkkaaGreatDoorSxJ
namespace Go.Sx
set_option linter.unusedSimpArgs false
section
variable {P : Program} {H : Dq}
theorem E6 {ops : Array Oper} {Q : Exit → Act → List Frame → World → Prop} {cs : List Frame} (hno : ∀ a w, ¬ Q .outgrown a cs w) : ∀ (l : List Oper) (k : Nat) (a : Act) (w : World), (∀ j, l[j]? = ops[k + j]?) →
  wpList P ops (fun e a w => Q e a cs w) l a w → wpOpsS P ops Q (List.range' k l.length) a cs w
 | [], k, a, w, _, h => by simpa [wpOpsS, wpList] using h
 | o :: l, k, a, w, hl, h => by
  have h0 : ops[k]? = some o := by simpa using (hl 0).symm
  have ih := fun a w => E6 hno l (k + 1) a w (fun j => by have := hl (j + 1); simpa [Nat.add_assoc, Nat.add_comm 1 j] using this)
  rw [List.length_cons, List.range'_succ]
  simp only [wpOpsS, h0]
  unfold wpList at h
  split
  ·rename_i hw
   rw [if_pos hw] at h
   have h := h.resolve_right fun ⟨_, a, w, hq⟩ => hno _ _ hq
   have h := Oper.wp_mono (K' := fun a' w' => wpOpsS P ops Q (List.range' (k + 1) l.length) a' cs w') (fun a' w' hh => ih a' w' hh) h
   unfold Oper.wp at h
   split
   ·rename_i w' hr
    rw [hr] at h
    exact h.elim
   ·exact h
  ·rename_i hw
   rw [if_neg hw] at h
   exact ih _ _ h
def isRecover (o : Oper) : Bool :=
 match o.op, o.guard with
 | .call { callee := .builtin .recover, args, .. }, none => Nat.beq args.size 0
 | _, _ => false
def Ke (P : Program) (H : Dq) (fn : Func) (args : List Value) (rv : Value) (k : World → Prop) (w : World) : Prop :=
 match fn.body with
 | some (.seq (.region _ ops false) rest) => match ops.toList with
  | o :: tl => Aj (isRecover o && Nat.beq fn.results.toList.length 0) (putE fn.ntmps { env := G4 0 args, loc := [] } o.dst (.val rv) fun s =>
   Cb P H fn.ntmps [] ops.toList (fun e s' w' => match e with
    | .normal => den P H fn.ntmps rest [] (fun e s'' w'' => match e with
     | .normal | .ret => Aj (Nat.beq s''.defs.length 0) (k w'')
     | _ => False) s' w'
    | _ => False) tl s w)
  | [] => False
 | _ => False
theorem Kf {o : Oper} (h : isRecover o = true) (ev : Operand → Value) (w : World) : (execOp ev o).run P w = .ok .recover w := by
 unfold isRecover at h
 split at h
 ·rename_i args at_ hop hg
  have h0 : args = #[] := Array.eq_empty_of_size_eq_zero (C2 h)
  subst h0
  simp [execOp, hop, resolve, invoke, builtin]
 ·cases h
theorem Ng {fn : Func} {args : List Value} {w w₀ : World} (hw : Ae w w₀) (hle : args.length ≤ fn.ntmps) :
  Rel w w₀ fn.ntmps [] { env := G4 0 args, loc := [] } { tmps := args.toArray ++ Array.replicate (fn.ntmps - args.toArray.size) undef, defers := [] } w w₀ (fun i => i) := by
 refine ⟨by simp; omega, rfl, hw, Kept.refl _ _, fun t e he => ?_, fun id lb hl => by simp [getL, get] at hl, fun id id' lb lb' hl => by simp [getL, get] at hl, fun id lb hl => by simp [get] at hl⟩
 obtain ⟨-, v, hv, rfl⟩ := Gz args 0 t e he
 have hlt : t < args.length := by
  rcases Nat.lt_or_ge t args.length with h' | h'
  ·exact h'
  ·rw [List.getElem?_eq_none (by omega)] at hv; cases hv
 simp only [Nat.sub_zero] at hv
 simp only [Array.getD_eq_getD_getElem?, Array.getElem?_append, List.size_toArray, hlt, if_true, List.getElem?_toArray, hv]
 rfl
theorem Ip (hmix : P.follows .mixedOrders = true) {g : FuncId} {fn : Func} {cap dargs : Array Value} {rv : Value} {u u2 : Option (List PanicEntry)} {k : Option (List PanicEntry) → World → Prop} {w : World}
    (hf : P.funcs[g]? = some fn) (hE : (fn.name == "runtime.NumGoroutine") = false) (hn : Nat.ble (dargs ++ cap).size fn.ntmps = true)
    (hu : (u = none ∧ rv = .nilIface ∧ u2 = none) ∨ (u = some [{ v := rv, recovered := false }] ∧ u2 = none))
    {args : List Value} (hargs' : (dargs ++ cap).toList = args) (h : Ke P H fn args rv (k u2) w) : D6 P ⟨.fn (.func g) cap, dargs⟩ u w k := by
  subst hargs'
  unfold Ke at h
  split at h
  case h_2 => exact h.elim
  rename_i id ops rest hb
  split at h
  case h_2 => exact h.elim
  rename_i o tl hops
  obtain ⟨hg, h⟩ := Ab h
  simp only [Bool.and_eq_true] at hg
  obtain ⟨hrec, hres⟩ := hg
  have hres : fn.results = #[] := by
    have := C2 hres
    exact Array.eq_empty_of_size_eq_zero (by simpa using this)
  refine ⟨g, cap, dargs, rfl, ⟨fn, hf, by simp [hb], hE⟩, fun w₀ hw => ?_⟩
  have hle : (dargs ++ cap).toList.length ≤ fn.ntmps := by have := Nat.le_of_ble_eq_true hn; simpa using this
  have hargs : dargs ++ cap = (dargs ++ cap).toList.toArray := by simp
  have hr := Ng (fn := fn) hw hle
  rw [hargs]
  refine callsD_of_wpS hf hb fun c₀ cs hmode => ?_
  -- what the callers are after 'recover'
  obtain ⟨u', hset, hrd⟩ : ∃ u', settle u' = Bt u2 ∧ ((recoverD (c₀ :: cs) = none ∧ u' = c₀.mode ∧ rv = .nilIface) ∨ recoverD (c₀ :: cs) = some (rv, { c₀ with mode := u' } :: cs)) := by
    rcases hu with ⟨rfl, hrv, rfl⟩ | ⟨rfl, rfl⟩
    · refine ⟨.returning, rfl, .inl ⟨?_, hmode.symm, hrv⟩⟩
      simp [recoverD, hmode, Bt]
    · refine ⟨.panicking [{ v := rv, recovered := true }], rfl, .inr ?_⟩
      simp [recoverD, hmode, Bt]
  obtain ⟨s, h, hr1, hv1, -⟩ := Bn h hr
  have hQ' : ∀ e s' a' w' w₀' ρ', (fun e s' w' => match e with
      | .normal => den P H fn.ntmps rest [] (fun e s'' w'' => match e with | .normal | .ret => Aj (Nat.beq s''.defs.length 0) (k u2 w'') | _ => False) s' w'
      | _ => False : Exit → DS → World → Prop) e s' w' → Rel w w₀ fn.ntmps [] s' a' w' w₀' ρ' →
      (Exit.thenS (rest.wpS P (bodyPostS P fn c₀ cs fun e u' w₀' => match e with
        | .returned _ => ∃ u'' w', settle u' = Bt u'' ∧ Ae w' w₀' ∧ Kept w w₀ w' w₀' ∧ k u'' w'
        | _ => False)) (bodyPostS P fn c₀ cs fun e u' w₀' => match e with
        | .returned _ => ∃ u'' w', settle u' = Bt u'' ∧ Ae w' w₀' ∧ Kept w w₀ w' w₀' ∧ k u'' w'
        | _ => False)) e a' ({ c₀ with mode := u' } :: cs) w₀' := by
    intro e s' a' w' w₀' ρ' hk hr'
    cases e with
    | normal =>
      show rest.wpS P _ a' _ w₀'
      refine wpS_of_wp (Gx hmix rest [] _ s' w' a' w₀' ρ' _ hk hr' fun e s'' a'' w'' w₀'' ρ'' hk hr'' _ _ => ?_)
      have fin : Aj (Nat.beq s''.defs.length 0) (k u2 w'') → a''.defers = [] ∧ ∃ x, { c₀ with mode := u' } :: cs = { c₀ with mode := x } :: cs ∧ ∃ v, (results fn a''.tmps).run P w₀'' = .ok v w₀'' ∧ ∃ u'' w', settle x = Bt u'' ∧ Ae w' w₀'' ∧ Kept w w₀ w' w₀'' ∧ k u'' w' := by
        intro hk
        obtain ⟨h1, h2⟩ := Ab hk
        refine ⟨by rw [hr''.nodef]; exact List.eq_nil_of_length_eq_zero (C2 h1), u', rfl, .tuple #[], ?_, u2, w'', hset, hr''.hides, hr''.kept, h2⟩
        simp [results, hres]
      cases e with
      | normal => exact fin hk
      | ret => exact fin hk
      | panic c => exact hk.elim
      | exit id => exact hk.elim
      | goto l => exact hk.elim
      | outgrown => exact hk.elim
    | panic c => exact hk.elim
    | exit id => exact hk.elim
    | goto l => exact hk.elim
    | ret => exact hk.elim
    | outgrown => exact hk.elim
  refine wpS_seq (wpS_region ?_)
  have hsz : ops.size = tl.length + 1 := by rw [← Array.length_toList, hops]; rfl
  have h0 : ops[0]? = some o := by rw [← Array.getElem?_toList, hops]; rfl
  rw [List.range_eq_range', hsz, List.range'_succ]
  have hwant : ∀ tm : Array Value, Region.wanted o (yielded ops tm) = true := by
    intro tm
    have : o.guard = none := by
      unfold isRecover at hrec
      split at hrec
      · assumption
      · cases hrec
    simp [Region.wanted, this]
  simp only [wpOpsS, h0, Kf hrec]
  rw [if_pos (hwant _)]
  have tail : ∀ cs', cs' = { c₀ with mode := u' } :: cs → wpOpsS P ops (Exit.thenS (rest.wpS P (bodyPostS P fn c₀ cs fun e u' w₀' => match e with
        | .returned _ => ∃ u'' w', settle u' = Bt u'' ∧ Ae w' w₀' ∧ Kept w w₀ w' w₀' ∧ k u'' w'
        | _ => False)) (bodyPostS P fn c₀ cs fun e u' w₀' => match e with
        | .returned _ => ∃ u'' w', settle u' = Bt u'' ∧ Ae w' w₀' ∧ Kept w w₀ w' w₀' ∧ k u'' w'
        | _ => False)) (List.range' (0 + 1) tl.length) (({ tmps := (dargs ++ cap).toList.toArray ++ Array.replicate (fn.ntmps - (dargs ++ cap).toList.toArray.size) undef, defers := [] } : Act).put o.dst rv) cs' w₀ := by
    rintro cs' rfl
    refine E6 (fun a w hq => ?_) tl 1 _ _ (fun j => ?_) (Gv (fun e s' a' w' w₀' ρ' hk hr' _ _ => hQ' e s' a' w' w₀' ρ' hk hr') tl s _ w w₀ _ (fun o' ho => by rw [hops]; exact List.mem_cons_of_mem _ ho) h hr1 (Agree.refl _ _) (Evol.refl _ _ _))
    · obtain ⟨u, hu⟩ := hq; exact hu.elim
    · rw [← Array.getElem?_toList, hops, Nat.add_comm]; rfl
  rcases hrd with ⟨hn', hm, hrv⟩ | hs
  · rw [hn']
    rw [← hrv]
    exact tail _ (by rw [hm])
  · rw [hs]
    exact tail _ rfl
end
end Go.Sx
