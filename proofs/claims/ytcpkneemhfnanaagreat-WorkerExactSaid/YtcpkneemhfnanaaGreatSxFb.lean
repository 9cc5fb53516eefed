/- A deferred call's contract out of what is asked of its text, what 'recover' yields told. Conditions: none. -/
import Derived.Test.YtcpkneemhfnanaaGreatSxL
import Derived.Test.YtcpkneemhfnanaaGreatSxN
import Derived.Laws.FloatArith
import GoSem.Extern.MathFloor
import Derived.Laws.Cover2
namespace Go.Sx
set_option linter.unusedSimpArgs false
section
variable {P : Program} {H : Ha}
theorem Iv {ops : Array Oper} {Q : Exit → Act → List Frame → World → Prop} {cs : List Frame} (hno : ∀ a w, ¬ Q .outgrown a cs w) : ∀ (l : List Oper) (k : Nat) (a : Act) (w : World), (∀ j, l[j]? = ops[k + j]?) →
  wpList P ops (fun e a w => Q e a cs w) l a w → wpOpsS P ops Q (List.range' k l.length) a cs w
 | [], k, a, w, _, h => by simpa [wpOpsS, wpList] using h
 | o :: l, k, a, w, hl, h => by
  have h0 : ops[k]? = some o := by simpa using (hl 0).symm
  have ih := fun a w => Iv hno l (k + 1) a w (fun j => by have := hl (j + 1); simpa [Nat.add_assoc, Nat.add_comm 1 j] using this)
  rw [List.length_cons, List.range'_succ]
  simp only [wpOpsS, h0]
  unfold wpList at h
  split
  ·rename_i hw
   rw [if_pos hw] at h
   have h := h.resolve_right fun ⟨_, a, w, hq⟩ => hno _ _ hq
   have h := Oper.wp_mono (K' := fun a' w' => wpOpsS P ops Q (List.range' (k + 1) l.length) a' cs w') (fun a' w' hh => ih a' w' hh) h
   unfold Oper.wp at h
   split
   ·rename_i w' hr
    rw [hr] at h
    exact h.elim
   ·exact h
  ·rename_i hw
   rw [if_neg hw] at h
   exact ih _ _ h
def isRecover (o : Oper) : Bool :=
 match o.op, o.guard with
 | .call { callee := .builtin .recover, args, .. }, none => Nat.beq args.size 0
 | _, _ => false
def Rs (P : Program) (H : Ha) (fn : Func) (args : List Value) (rv : Value) (k : World → Prop) (w : World) : Prop :=
 match fn.body with
 | some (.seq (.region _ ops false) rest) => match ops.toList with
  | o :: tl => Ay (isRecover o && Nat.beq fn.results.toList.length 0) (putE fn.ntmps { env := Mu 0 args, loc := [] } o.dst (.val rv) fun s =>
   Ez P H fn.ntmps [] ops.toList (fun e s' w' => match e with
    | .normal => den P H fn.ntmps rest [] (fun e s'' w'' => match e with
     | .normal | .ret => Ay (Nat.beq s''.defs.length 0) (k w'')
     | _ => False) s' w'
    | _ => False) tl s w)
  | [] => False
 | _ => False
theorem Rt {o : Oper} (h : isRecover o = true) (ev : Operand → Value) (w : World) : (execOp ev o).run P w = .ok .recover w := by
 unfold isRecover at h
 split at h
 ·rename_i args at_ hop hg
  have h0 : args = #[] := Array.eq_empty_of_size_eq_zero (F8 h)
  subst h0
  simp [execOp, hop, resolve, invoke, builtin]
 ·cases h
theorem Xf {fn : Func} {args : List Value} {w w₀ : World} (hw : A5 w w₀) (hle : args.length ≤ fn.ntmps) :
  Rel w w₀ fn.ntmps [] { env := Mu 0 args, loc := [] } { tmps := args.toArray ++ Array.replicate (fn.ntmps - args.toArray.size) undef, defers := [] } w w₀ (fun i => i) := by
 refine ⟨by simp; omega, rfl, hw, Kept.refl _ _, fun t e he => ?_, fun id lb hl => by simp [getL, get] at hl, fun id id' lb lb' hl => by simp [getL, get] at hl, fun id lb hl => by simp [get] at hl⟩
 obtain ⟨-, v, hv, rfl⟩ := L3 args 0 t e he
 have hlt : t < args.length := by
  rcases Nat.lt_or_ge t args.length with h' | h'
  ·exact h'
  ·rw [List.getElem?_eq_none (by omega)] at hv; cases hv
 simp only [Nat.sub_zero] at hv
 simp only [Array.getD_eq_getD_getElem?, Array.getElem?_append, List.size_toArray, hlt, if_true, List.getElem?_toArray, hv]
 rfl
theorem Oi (hmix : P.follows .mixedOrders = true) {g : FuncId} {fn : Func} {cap dargs : Array Value} {rv : Value} {u u2 : Option (List PanicEntry)} {k : Option (List PanicEntry) → World → Prop} {w : World}
    (hf : P.funcs[g]? = some fn) (hE : (fn.name == "runtime.NumGoroutine") = false) (hn : Nat.ble (dargs ++ cap).size fn.ntmps = true)
    (hu : (u = none ∧ rv = .nilIface ∧ u2 = none) ∨ (u = some [{ v := rv, recovered := false }] ∧ u2 = none))
    {args : List Value} (hargs' : (dargs ++ cap).toList = args) (h : Rs P H fn args rv (k u2) w) : Fc P ⟨.fn (.func g) cap, dargs⟩ u w k := by
  subst hargs'
  unfold Rs at h
  split at h
  case h_2 => exact h.elim
  rename_i id ops rest hb
  split at h
  case h_2 => exact h.elim
  rename_i o tl hops
  obtain ⟨hg, h⟩ := Ah h
  simp only [Bool.and_eq_true] at hg
  obtain ⟨hrec, hres⟩ := hg
  have hres : fn.results = #[] := by
    have := F8 hres
    exact Array.eq_empty_of_size_eq_zero (by simpa using this)
  refine ⟨g, cap, dargs, rfl, ⟨fn, hf, by simp [hb], hE⟩, fun w₀ hw => ?_⟩
  have hle : (dargs ++ cap).toList.length ≤ fn.ntmps := by have := Nat.le_of_ble_eq_true hn; simpa using this
  have hargs : dargs ++ cap = (dargs ++ cap).toList.toArray := by simp
  have hr := Xf (fn := fn) hw hle
  rw [hargs]
  refine callsD_of_wpS hf hb fun c₀ cs hmode => ?_
  -- what the callers are after 'recover'
  obtain ⟨u', hset, hrd⟩ : ∃ u', settle u' = E0 u2 ∧ ((recoverD (c₀ :: cs) = none ∧ u' = c₀.mode ∧ rv = .nilIface) ∨ recoverD (c₀ :: cs) = some (rv, { c₀ with mode := u' } :: cs)) := by
    rcases hu with ⟨rfl, hrv, rfl⟩ | ⟨rfl, rfl⟩
    · refine ⟨.returning, rfl, .inl ⟨?_, hmode.symm, hrv⟩⟩
      simp [recoverD, hmode, E0]
    · refine ⟨.panicking [{ v := rv, recovered := true }], rfl, .inr ?_⟩
      simp [recoverD, hmode, E0]
  obtain ⟨s, h, hr1, hv1, -⟩ := Dj h hr
  have hQ' : ∀ e s' a' w' w₀' ρ', (fun e s' w' => match e with
      | .normal => den P H fn.ntmps rest [] (fun e s'' w'' => match e with | .normal | .ret => Ay (Nat.beq s''.defs.length 0) (k u2 w'') | _ => False) s' w'
      | _ => False : Exit → DS → World → Prop) e s' w' → Rel w w₀ fn.ntmps [] s' a' w' w₀' ρ' →
      (Exit.thenS (rest.wpS P (bodyPostS P fn c₀ cs fun e u' w₀' => match e with
        | .returned _ => ∃ u'' w', settle u' = E0 u'' ∧ A5 w' w₀' ∧ Kept w w₀ w' w₀' ∧ k u'' w'
        | _ => False)) (bodyPostS P fn c₀ cs fun e u' w₀' => match e with
        | .returned _ => ∃ u'' w', settle u' = E0 u'' ∧ A5 w' w₀' ∧ Kept w w₀ w' w₀' ∧ k u'' w'
        | _ => False)) e a' ({ c₀ with mode := u' } :: cs) w₀' := by
    intro e s' a' w' w₀' ρ' hk hr'
    cases e with
    | normal =>
      show rest.wpS P _ a' _ w₀'
      refine wpS_of_wp (Qj hmix rest [] _ s' w' a' w₀' ρ' _ hk hr' fun e s'' a'' w'' w₀'' ρ'' hk hr'' _ _ => ?_)
      have fin : Ay (Nat.beq s''.defs.length 0) (k u2 w'') → a''.defers = [] ∧ ∃ x, { c₀ with mode := u' } :: cs = { c₀ with mode := x } :: cs ∧ ∃ v, (results fn a''.tmps).run P w₀'' = .ok v w₀'' ∧ ∃ u'' w', settle x = E0 u'' ∧ A5 w' w₀'' ∧ Kept w w₀ w' w₀'' ∧ k u'' w' := by
        intro hk
        obtain ⟨h1, h2⟩ := Ah hk
        refine ⟨by rw [hr''.nodef]; exact List.eq_nil_of_length_eq_zero (F8 h1), u', rfl, .tuple #[], ?_, u2, w'', hset, hr''.hides, hr''.kept, h2⟩
        simp [results, hres]
      cases e with
      | normal => exact fin hk
      | ret => exact fin hk
      | panic c => exact hk.elim
      | exit id => exact hk.elim
      | goto l => exact hk.elim
      | outgrown => exact hk.elim
    | panic c => exact hk.elim
    | exit id => exact hk.elim
    | goto l => exact hk.elim
    | ret => exact hk.elim
    | outgrown => exact hk.elim
  refine wpS_seq (wpS_region ?_)
  have hsz : ops.size = tl.length + 1 := by rw [← Array.length_toList, hops]; rfl
  have h0 : ops[0]? = some o := by rw [← Array.getElem?_toList, hops]; rfl
  rw [List.range_eq_range', hsz, List.range'_succ]
  have hwant : ∀ tm : Array Value, Region.wanted o (yielded ops tm) = true := by
    intro tm
    have : o.guard = none := by
      unfold isRecover at hrec
      split at hrec
      · assumption
      · cases hrec
    simp [Region.wanted, this]
  simp only [wpOpsS, h0, Rt hrec]
  rw [if_pos (hwant _)]
  have tail : ∀ cs', cs' = { c₀ with mode := u' } :: cs → wpOpsS P ops (Exit.thenS (rest.wpS P (bodyPostS P fn c₀ cs fun e u' w₀' => match e with
        | .returned _ => ∃ u'' w', settle u' = E0 u'' ∧ A5 w' w₀' ∧ Kept w w₀ w' w₀' ∧ k u'' w'
        | _ => False)) (bodyPostS P fn c₀ cs fun e u' w₀' => match e with
        | .returned _ => ∃ u'' w', settle u' = E0 u'' ∧ A5 w' w₀' ∧ Kept w w₀ w' w₀' ∧ k u'' w'
        | _ => False)) (List.range' (0 + 1) tl.length) (({ tmps := (dargs ++ cap).toList.toArray ++ Array.replicate (fn.ntmps - (dargs ++ cap).toList.toArray.size) undef, defers := [] } : Act).put o.dst rv) cs' w₀ := by
    rintro cs' rfl
    refine Iv (fun a w hq => ?_) tl 1 _ _ (fun j => ?_) (Ly (fun e s' a' w' w₀' ρ' hk hr' _ _ => hQ' e s' a' w' w₀' ρ' hk hr') tl s _ w w₀ _ (fun o' ho => by rw [hops]; exact List.mem_cons_of_mem _ ho) h hr1 (Agree.refl _ _) (Evol.refl _ _ _))
    · obtain ⟨u, hu⟩ := hq; exact hu.elim
    · rw [← Array.getElem?_toList, hops, Nat.add_comm]; rfl
  rcases hrd with ⟨hn', hm, hrv⟩ | hs
  · rw [hn']
    rw [← hrv]
    exact tail _ (by rw [hm])
  · rw [hs]
    exact tail _ rfl
end
end Go.Sx
namespace Go.Sx
set_option linter.unusedSimpArgs false
set_option linter.unusedVariables false
theorem Uw : Ieee.double.binade = 4503599627370496 := by decide +kernel
theorem Zy : Ieee.double.signWeight = 9223372036854775808 := by decide +kernel
theorem Ru : Ieee.double.infRung = 9218868437227405312 := by decide +kernel
theorem Ad9 : Ieee.double.leastPlace = -1074 := by decide +kernel
theorem Wb : (2 : Nat) ^ Ieee.double.width = 18446744073709551616 := by decide +kernel
def nanB (x : Nat) : Bool := decide (9218868437227405312 < x % 9223372036854775808)
def infB (x : Nat) : Bool := decide (x % 9223372036854775808 = 9218868437227405312)
def negB (x : Nat) : Bool := x / 9223372036854775808 % 2 == 1
def El : Nat := 9221120237041090561
def Al (x : Nat) : Nat := if nanB x then El else x
def ordB (x y : Nat) : Option Ordering := Ieee.double.order x y
theorem Jr (x : Nat) : Ieee.double.read x = if x % 9223372036854775808 < 4503599627370496 then .number (negB x) (x % 9223372036854775808) (-1074)
  else if x % 9223372036854775808 < 9218868437227405312 then .number (negB x) (4503599627370496 + x % 9223372036854775808 % 4503599627370496) (-1074 + (x % 9223372036854775808 / 4503599627370496 - 1 : Nat))
  else if x % 9223372036854775808 = 9218868437227405312 then .infinity (negB x) else .nan (negB x) (x % 9223372036854775808 - 9218868437227405312) := by
 unfold Ieee.Format.read negB
 simp only [Uw, Zy, Ru, Ad9]
theorem Ld {x : Nat} (h : nanB x = true) : ∃ t, Ieee.double.read x = .nan (negB x) t := by
 simp only [nanB, decide_eq_true_eq] at h
 rw [Jr, if_neg (by omega), if_neg (by omega), if_neg (by omega)]
 exact ⟨_, rfl⟩
theorem Em {x : Nat} (h : infB x = true) : Ieee.double.read x = .infinity (negB x) := by
 simp only [infB, decide_eq_true_eq] at h
 rw [Jr, if_neg (by omega), if_neg (by omega), if_pos h]
theorem Hh {x : Nat} (h1 : nanB x = false) (h2 : infB x = false) : ∃ m i, Ieee.double.read x = .number (negB x) m i ∧ m < 9007199254740992 ∧ -1074 ≤ i ∧ i ≤ 971 := by
 simp only [nanB, infB, decide_eq_false_iff_not] at h1 h2
 rw [Jr]
 by_cases ha : x % 9223372036854775808 < 4503599627370496
 ·rw [if_pos ha]; exact ⟨_, _, rfl, by omega, by omega, by omega⟩
 ·rw [if_neg ha, if_pos (by omega)]; exact ⟨_, _, rfl, by omega, by omega, by omega⟩
theorem S2 (x : Nat) : ordB x x = if nanB x then none else some .eq := by
 unfold ordB Ieee.Format.order
 cases hn : nanB x
 ·cases hi : infB x
  ·obtain ⟨m, i, h, -⟩ := Hh hn hi
   rw [h]; simp [Ieee.Datum.order, compare, compareOfLessAndEq]
  ·rw [Em hi]; simp [Ieee.Datum.order, compare, compareOfLessAndEq]
 ·obtain ⟨t, h⟩ := Ld hn
  rw [h]; rfl
theorem Rv {x y : Nat} (h : nanB x = true) : ordB x y = none ∧ ordB y x = none := by
 obtain ⟨t, ht⟩ := Ld h
 unfold ordB Ieee.Format.order
 rw [ht]
 refine ⟨rfl, ?_⟩
 cases Ieee.double.read y <;> rfl
theorem Le (x : Nat) : Al (Al x) = Al x := by
 unfold Al
 cases h : nanB x
 ·simp [h]
 ·have : nanB El = true := by decide
  simp [this]
theorem Dl {x : Nat} (h : nanB x = false) : Al x = x := by simp [Al, h]
theorem E2 {x : Nat} (h : nanB x = true) : Al x = El := by simp [Al, h]
theorem B6 {x : Nat} (h : x < 18446744073709551616) : Al x < 18446744073709551616 := by
 unfold Al; split
 ·decide
 ·exact h
section
variable {P : Program}
theorem Eb {s : Sem Value} {v : Value} {w : World} {k : Value → World → Prop} (h : Ao P s v) (hk : k v w) : SemW P s k w :=
 fun w₀ hw => ⟨v, w₀, w, h w₀, hw, Kept.refl _ _, hk⟩
theorem Nq {t : TypeId} {a b : Operand} {x y : Nat} : Ao P (eqS .eql t a b (.float .f64 x) (.float .f64 y)) (.bool (ordB x y == some .eq)) := fun w => by
 simp [eqS, eqGuard, binOp_float_cmp_eql, FloatKind.format, ordB]
theorem Rw {t : TypeId} {a b : Operand} {x y : Nat} : Ao P (eqS .neq t a b (.float .f64 x) (.float .f64 y)) (.bool (ordB x y != some .eq)) := fun w => by
 simp [eqS, eqGuard, binOp_float_cmp_neq, FloatKind.format, ordB]
theorem Hz {t : TypeId} {a b : Operand} {x y : Nat} : Ao P (eqS .lss t a b (.float .f64 x) (.float .f64 y)) (.bool (ordB x y == some .lt)) := fun w => by
 simp [eqS, eqGuard, binOp_float_cmp_lss, FloatKind.format, ordB]
theorem H0 {t : TypeId} {a b : Operand} {x y : Nat} : Ao P (eqS .gtr t a b (.float .f64 x) (.float .f64 y)) (.bool (ordB x y == some .gt)) := fun w => by
 simp [eqS, eqGuard, binOp_float_cmp_gtr, FloatKind.format, ordB]
theorem Ac2 {t : TypeId} {a b : Operand} {x y : Nat} : Ao P (eqS .leq t a b (.float .f64 x) (.float .f64 y)) (.bool (ordB x y == some .lt || ordB x y == some .eq)) := fun w => by
 simp [eqS, eqGuard, binOp_float_cmp_leq, FloatKind.format, ordB]
theorem Ac3 {t : TypeId} {a b : Operand} {x y : Nat} : Ao P (eqS .geq t a b (.float .f64 x) (.float .f64 y)) (.bool (ordB x y == some .gt || ordB x y == some .eq)) := fun w => by
 simp [eqS, eqGuard, binOp_float_cmp_geq, FloatKind.format, ordB]
theorem D3 {t : TypeId} {a b : Operand} {x : Nat} : Ao P (eqS .neq t a b (.float .f64 x) (.float .f64 x)) (.bool (nanB x)) := fun w => by
 rw [Rw w, S2]; cases nanB x <;> rfl
theorem Zz {t : TypeId} {a b : Operand} {x : Nat} : Ao P (eqS .eql t a b (.float .f64 x) (.float .f64 x)) (.bool (!nanB x)) := fun w => by
 rw [Nq w, S2]; cases nanB x <;> rfl
theorem Ee {op : BinOp} {t : TypeId} {a b : Operand} {x y : Nat} {k : Value → World → Prop} {w : World} (hop : op = .add ∨ op = .sub ∨ op = .mul ∨ op = .quo)
  (hk : ∀ r w', Grew w w' → (floatBits op .f64 x y = some r ∨ (floatBits op .f64 x y = none ∧ nanB r = true ∧ r < 18446744073709551616)) → k (.float .f64 r) w') : SemW P (eqS op t a b (.float .f64 x) (.float .f64 y)) k w := by
 intro w₀ hw
 cases hr : floatBits op .f64 x y with
 | some r =>
  refine ⟨_, w₀, w, ?_, hw, Kept.refl _ _, hk r w (Grew.refl _) (.inl hr)⟩
  have := run_float_arith (P := P) w₀ op t .f64 x y r hr
  rcases hop with rfl | rfl | rfl | rfl <;> simpa [eqS, eqGuard] using this
 | none =>
  let q : Question := .nanBits .f64 x y
  let r := q.cut (w₀.tape w₀.drawn q)
  have hrb : nanB r = true ∧ r < 18446744073709551616 := by
   generalize ht : w₀.tape w₀.drawn q = T
   have : r = (T % 2) * 2 ^ 63 + 0x7ff0000000000000 + 1 + (T / 2) % (2 ^ 52 - 1) := by show q.cut _ = _; rw [ht]; rfl
   rw [this]
   have h2 := Nat.mod_lt T (show 0 < 2 by decide)
   have h3 := Nat.mod_lt (T / 2) (show 0 < 2 ^ 52 - 1 by decide)
   simp only [nanB, decide_eq_true_eq]
   generalize (T / 2) % (2 ^ 52 - 1) = z at h3
   have h3' : z < 4503599627370495 := h3
   rcases (show T % 2 = 0 ∨ T % 2 = 1 by omega) with h | h <;> rw [h] <;> omega
  refine ⟨.float .f64 r, { w₀ with drawn := w₀.drawn + 1 }, { w with drawn := w.drawn + 1 }, ?_, ⟨hw.os, hw.tape, by show w.drawn + 1 = w₀.drawn + 1; rw [hw.drawn], hw.output, hw.size, hw.block⟩, ⟨fun _ h => h, fun _ _ => rfl, Nat.le_refl _⟩, hk r _ ⟨rfl, rfl, rfl, Nat.le_refl _, fun _ _ => rfl⟩ (.inr ⟨hr, hrb⟩)⟩
  have hq : q.forced = false := rfl
  unfold floatBits at hr
  rcases hop with rfl | rfl | rfl | rfl <;> simp only at hr <;> simp [eqS, eqGuard, binOp, Op.floatArith, hr, run_choose, q, Question.forced, r]
theorem Z0 {y : Nat} (hy : y < 2 ^ 63) (i : Nat) : (2 ^ 63 + y).testBit i = (decide (63 = i) != y.testBit i) := by
 rcases Nat.lt_trichotomy i 63 with h | h | h
 ·rw [Nat.testBit_two_pow_add_gt h]
  have : ¬ 63 = i := by omega
  simp [this]
 ·subst h
  rw [Nat.testBit_two_pow_add_eq]
  rw [Nat.testBit_lt_two_pow hy]; rfl
 ·have h1 : 2 ^ 63 + y < 2 ^ i := Nat.lt_of_lt_of_le (by omega : 2 ^ 63 + y < 2 ^ 64) (Nat.pow_le_pow_right (by decide) h)
  have h2 : y < 2 ^ i := by omega
  rw [Nat.testBit_lt_two_pow h1, Nat.testBit_lt_two_pow h2]
  have : ¬ 63 = i := by omega
  simp [this]
theorem Aea {x : Nat} (h : x < 18446744073709551616) : x ^^^ 9223372036854775808 = if x < 9223372036854775808 then x + 9223372036854775808 else x - 9223372036854775808 := by
 have h63 : (9223372036854775808 : Nat) = 2 ^ 63 := by decide
 split
 ·rename_i hlt
  apply Nat.eq_of_testBit_eq
  intro i
  rw [h63, Nat.testBit_xor, Nat.testBit_two_pow, Nat.add_comm x, Z0 (by omega) i]
  cases x.testBit i <;> cases decide (63 = i) <;> rfl
 ·rename_i hge
  obtain ⟨y, rfl⟩ : ∃ y, x = 2 ^ 63 + y := ⟨x - 9223372036854775808, by omega⟩
  have hlt : y < 2 ^ 63 := by omega
  have e : 2 ^ 63 + y - 9223372036854775808 = y := by omega
  rw [e]
  apply Nat.eq_of_testBit_eq
  intro i
  rw [h63, Nat.testBit_xor, Nat.testBit_two_pow, Z0 hlt i]
  cases y.testBit i <;> cases decide (63 = i) <;> rfl
theorem Z1 {x : Nat} (h : x < 18446744073709551616) : Ao P (Op.unary .neg (.float .f64 x)) (.float .f64 (if x < 9223372036854775808 then x + 9223372036854775808 else x - 9223372036854775808)) := fun w => by
 have key := Aea h
 show (Op.unary .neg (.float .f64 x)).run P w = _
 simp only [Op.unary, Op.negFloat, FloatKind.format, Ieee.double, Sem.run_pure]
 rw [show (2 : Nat) ^ (11 + 52) = 9223372036854775808 from by decide, key]
end
end Go.Sx
namespace Go.Sx
set_option linter.unusedSimpArgs false
set_option linter.unusedVariables false
def c63 : Nat := 4890909195324358656
def m63 : Nat := 14114281232179134464
theorem Oj : Ieee.double.read c63 = .number false 4503599627370496 11 := by decide +kernel
theorem Ol : Ieee.double.read m63 = .number true 4503599627370496 11 := by decide +kernel
def En (x : Nat) : Int := match (Ieee.double.read x).toInt .zero with | some n => n | none => 0
def By (x : Nat) : Int := if nanB x then 0 else if (ordB x c63 == some .gt || ordB x c63 == some .eq) then 9223372036854775807 else if (ordB x m63 == some .lt || ordB x m63 == some .eq) then -9223372036854775808 else En x
theorem Z2 (s : Bool) (n d : Nat) : Ieee.Toward.zero.cut s n d = n / 2 ^ d := by
 unfold Ieee.Toward.cut
 simp only [Nat.shiftLeft_eq, Nat.one_mul, Bool.toNat_false, Nat.add_zero]
 by_cases h : d ≤ n.log2 + 2
 ·rw [Nat.min_eq_left h]
 ·rw [Nat.min_eq_right (by omega)]
  have h1 : n < 2 ^ (n.log2 + 1) := Nat.lt_log2_self
  have h2 : n < 2 ^ (n.log2 + 2) := Nat.lt_of_lt_of_le h1 (Nat.pow_le_pow_right (by decide) (by omega))
  have h3 : n < 2 ^ d := Nat.lt_of_lt_of_le h2 (Nat.pow_le_pow_right (by decide) (by omega))
  rw [Nat.div_eq_of_lt h2, Nat.div_eq_of_lt h3]
theorem Xg {m : Nat} {i : Int} (h : m * 2 ^ (i - min i 11).toNat < 4503599627370496 * 2 ^ ((11 : Int) - min i 11).toNat) : (m * 2 ^ i.toNat) / 2 ^ (-i).toNat < 9223372036854775808 := by
 refine (Nat.div_lt_iff_lt_mul (Nat.two_pow_pos _)).2 ?_
 by_cases h11 : 11 ≤ i
 ·have e1 : min i 11 = 11 := by omega
  rw [e1] at h
  have e2 : i.toNat = (i - 11).toNat + 11 := by omega
  have e3 : (-i).toNat = 0 := by omega
  rw [e2, e3, Nat.pow_add]
  have e4 : ((11 : Int) - 11).toNat = 0 := by decide
  rw [e4] at h
  generalize 2 ^ (i - 11).toNat = A at h ⊢
  rw [← Nat.mul_assoc]
  omega
 ·have e1 : min i 11 = i := by omega
  rw [e1] at h
  have e0 : (i - i).toNat = 0 := by omega
  rw [e0] at h
  by_cases h0 : 0 ≤ i
  ·obtain ⟨k, rfl⟩ := Int.eq_ofNat_of_zero_le h0
   have e3 : (-(k : Int)).toNat = 0 := by omega
   have e4 : ((11 : Int) - k).toNat = 11 - k := by omega
   rw [e3]; rw [e4] at h
   have hk : k < 11 := by omega
   simp only [Int.toNat_natCast, Nat.pow_zero, Nat.mul_one] at h ⊢
   have : 2 ^ (11 - k) * 2 ^ k = 2048 := by rw [← Nat.pow_add, show 11 - k + k = 11 from by omega]
   have h2 := Nat.mul_lt_mul_of_pos_right h (Nat.two_pow_pos k)
   rw [Nat.mul_assoc, this] at h2
   omega
  ·have e3 : i.toNat = 0 := by omega
   have e4 : ((11 : Int) - i).toNat = 11 + (-i).toNat := by omega
   rw [e3]; rw [e4, Nat.pow_add] at h
   simp only [Nat.pow_zero, Nat.mul_one] at h ⊢
   rw [← Nat.mul_assoc] at h
   simpa using h
theorem Js (s : Bool) (m k : Nat) : Ieee.signed s m k = if s then -((m * 2 ^ k : Nat) : Int) else ((m * 2 ^ k : Nat) : Int) := by
 unfold Ieee.signed
 rw [Nat.shiftLeft_eq]
theorem Eo {a b : Int} : (compare a b == Ordering.gt) = decide (b < a) ∧ (compare a b == Ordering.eq) = decide (a = b) ∧ (compare a b == Ordering.lt) = decide (a < b) := by
 simp only [compare, compareOfLessAndEq]
 rcases Int.lt_trichotomy a b with h | h | h
 ·have h1 : ¬ b < a := by omega
  have h2 : ¬ a = b := by omega
  simp [h, h1, h2]
 ·subst h; simp
 ·have h1 : ¬ a < b := by omega
  have h2 : ¬ a = b := by omega
  simp [h, h1, h2]
theorem L4 (s : Bool) (m : Nat) (i : Int) : (Ieee.Datum.number s m i).toInt .zero = some (if s then -(((m * 2 ^ i.toNat) / 2 ^ (-i).toNat : Nat) : Int) else (((m * 2 ^ i.toNat) / 2 ^ (-i).toNat : Nat) : Int)) := by
 simp only [Ieee.Datum.toInt, Ieee.Datum.integral, Js, Z2, Nat.shiftLeft_eq, Nat.pow_zero, Nat.mul_one]
theorem Z3 {x : Nat} (hn : nanB x = false) (h1 : (ordB x c63 == some .gt || ordB x c63 == some .eq) = false) (h2 : (ordB x m63 == some .lt || ordB x m63 == some .eq) = false) :
  floatToIntVal .f64 x .i64 = some (En x) ∧ -9223372036854775808 < En x ∧ En x < 9223372036854775808 := by
 unfold ordB Ieee.Format.order at h1 h2
 rw [Oj] at h1
 rw [Ol] at h2
 cases hi : infB x
 ·obtain ⟨m, i, hr, -⟩ := Hh hn hi
  rw [hr] at h1 h2
  simp only [Ieee.Datum.order, Option.some_beq_some, Eo.1, Eo.2.1, Eo.2.2, Bool.or_eq_false_iff, decide_eq_false_iff_not, Js] at h1 h2
  have hlt : m * 2 ^ (i - min i 11).toNat < 4503599627370496 * 2 ^ ((11 : Int) - min i 11).toNat := by
   generalize negB x = s at h1 h2
   generalize m * 2 ^ (i - min i 11).toNat = A at h1 h2 ⊢
   generalize 4503599627370496 * 2 ^ ((11 : Int) - min i 11).toNat = B at h1 h2 ⊢
   cases s
   ·simp at h1; omega
   ·simp at h2; omega
  have hc := Xg hlt
  have ht : En x = if negB x then -(((m * 2 ^ i.toNat) / 2 ^ (-i).toNat : Nat) : Int) else (((m * 2 ^ i.toNat) / 2 ^ (-i).toNat : Nat) : Int) := by
   unfold En
   rw [hr, L4]
  have hf : floatToIntVal .f64 x .i64 = (if IntKind.min .i64 ≤ En x ∧ En x ≤ IntKind.max .i64 then some (En x) else none) := by
   unfold floatToIntVal
   show (match (Ieee.double.read x).toInt .zero with | some n => _ | none => _) = _
   rw [hr, L4, ht]
  generalize (m * 2 ^ i.toNat) / 2 ^ (-i).toNat = c at hc ht
  have hb : -9223372036854775808 < En x ∧ En x < 9223372036854775808 := by
   rw [ht]; split <;> omega
  refine ⟨?_, hb⟩
  rw [hf, if_pos]
  simp only [IntKind.min, IntKind.max, IntKind.signed, IntKind.bits]
  constructor <;> simp <;> omega
 ·rw [Em hi] at h1 h2
  generalize negB x = s at h1 h2
  cases s <;> simp [Ieee.Datum.order] at h1 h2
def Da (x : Nat) : Nat := if nanB x then El else Al (Ieee.double.write ((Ieee.double.read x).integral .down))
theorem L5 (d : Ieee.Datum) : Ieee.double.write d < 18446744073709551616 := by have := Ieee.double.write_lt d; rwa [Wb] at this
theorem L6 (x : Nat) : Da x < 18446744073709551616 := by
 unfold Da; split
 ·decide
 ·exact B6 (L5 _)
def Ep (f s : Nat) : Nat := f % 9223372036854775808 + s / 9223372036854775808 * 9223372036854775808
theorem Aeb {x : Nat} : x &&& 9223372036854775807 = x % 9223372036854775808 := by
 rw [show (9223372036854775807 : Nat) = 2 ^ 63 - 1 from by decide, Nat.and_two_pow_sub_one_eq_mod]
theorem Wc {x : Nat} (h : x < 18446744073709551616) : x &&& 9223372036854775808 = x / 9223372036854775808 * 9223372036854775808 := by
 have h63 : (9223372036854775808 : Nat) = 2 ^ 63 := by decide
 by_cases hlt : x < 9223372036854775808
 ·have e : x / 9223372036854775808 = 0 := by omega
  rw [e, Nat.zero_mul]
  apply Nat.eq_of_testBit_eq
  intro i
  rw [h63, Nat.testBit_and, Nat.testBit_two_pow]
  by_cases h : 63 = i
  ·subst h; rw [Nat.testBit_lt_two_pow (by omega)]; simp
  ·simp [h]
 ·obtain ⟨y, rfl⟩ : ∃ y, x = 2 ^ 63 + y := ⟨x - 9223372036854775808, by omega⟩
  have hy : y < 2 ^ 63 := by omega
  have e : (2 ^ 63 + y) / 9223372036854775808 = 1 := by omega
  rw [e, Nat.one_mul]
  apply Nat.eq_of_testBit_eq
  intro i
  rw [h63, Nat.testBit_and, Nat.testBit_two_pow, Z0 hy]
  by_cases h : 63 = i
  ·subst h; rw [Nat.testBit_lt_two_pow hy]; simp
  ·simp [h]
theorem Xh {f s : Nat} (hf : f < 18446744073709551616) (hs : s < 18446744073709551616) :
  Go.bits .or .u64 (Go.bits .andNot .u64 (f : Int) 9223372036854775808) (Go.bits .and .u64 (s : Int) 9223372036854775808) = ((Ep f s : Nat) : Int) := by
 rw [u64_andNot _ _ (by omega) (by omega) (by decide) (by decide), u64_and _ _ (by omega) (by omega) (by decide) (by decide)]
 have e1 : (18446744073709551615 : Nat) - (9223372036854775808 : Int).toNat = 9223372036854775807 := by decide
 rw [e1, Int.toNat_natCast, Int.toNat_natCast, Aeb, show (9223372036854775808 : Int).toNat = 9223372036854775808 from by decide, Wc hs]
 rw [u64_or_nat _ _ (by omega) (by omega)]
 rw [Nat.or_comm, nat_join 63 _ _ (by omega) (by omega)]
 unfold Ep; rw [Nat.add_comm]
theorem S3 {f : Nat} (hf : f < 18446744073709551616) : Go.bits .andNot .u64 (f : Int) 9223372036854775808 = ((f % 9223372036854775808 : Nat) : Int) := by
 rw [u64_andNot _ _ (by omega) (by omega) (by decide) (by decide)]
 have e1 : (18446744073709551615 : Nat) - (9223372036854775808 : Int).toNat = 9223372036854775807 := by decide
 rw [e1, Int.toNat_natCast, Aeb]
theorem Hi {f s : Nat} (hs : s < 18446744073709551616) : Ep f s < 18446744073709551616 := by unfold Ep; omega
def mulF (x y : Nat) : Nat := match Ieee.double.mul x y with | some r => r | none => El
theorem Lf (x y : Nat) : mulF x y < 18446744073709551616 := by
 unfold mulF; split
 ·rename_i r h; have := Ieee.double.mul_lt h; rwa [Wb] at this
 ·decide
def divF (x y : Nat) : Nat := match Ieee.double.div x y with | some r => r | none => El
theorem Wd (x y : Nat) : divF x y < 18446744073709551616 := by
 unfold divF; split
 ·rename_i r h; have := Ieee.double.div_lt h; rwa [Wb] at this
 ·decide
theorem Ac4 {x y : Nat} (h1 : nanB x = false) (h2 : infB x = false) (h3 : nanB y = false) (h4 : infB y = false) : Ieee.double.mul x y = some (mulF x y) := by
 obtain ⟨m, i, hx, -⟩ := Hh h1 h2
 obtain ⟨n, j, hy, -⟩ := Hh h3 h4
 unfold mulF Ieee.Format.mul
 rw [hx, hy]; rfl
def numOf (n : Int) : Nat := floatOfInt .f64 n
theorem Om (n : Int) : numOf n < 18446744073709551616 := by
 have := Ieee.double.write_lt (.number (n < 0) n.natAbs 0); rwa [Wb] at this
def Dy (x : Nat) : Nat × Int := if ordB (x % 9223372036854775808) 4503599627370496 == some .lt then (mulF x 4841369599423283200, -52) else (x, 0)
def Gb (x : Nat) (exp : Int) : Nat :=
 if ordB x 0 == some .eq then x else if ordB (x % 9223372036854775808) 9218868437227405311 == some .gt then x else if nanB x then x else
 let fr := (Dy x).1
 let n15 := IntKind.i64.wrap (exp + (Dy x).2)
 let n21 := Go.bits .and .i64 (IntKind.i64.wrap (Int.fdiv (fr : Int) (2 ^ (min (52 : Int).toNat (IntKind.bits .u64))))) 2047
 let n23 := IntKind.i64.wrap (n15 + IntKind.i64.wrap (n21 - 1023))
 if n23 < -1075 then Ep 0 fr
 else if n23 > 1023 then (if ordB fr 0 == some .lt then 18442240474082181120 else 9218868437227405312)
 else if n23 < -1022 then mulF 4368491638549381120 (Go.bits .or .u64 (Go.bits .andNot .u64 (fr : Int) 9218868437227405312) (IntKind.u64.wrap ((IntKind.u64.wrap (IntKind.i64.wrap (IntKind.i64.wrap (n23 + 53) + 1023))) * 2 ^ (min (52 : Int).toNat (IntKind.bits .u64))))).toNat
 else mulF 4607182418800017408 (Go.bits .or .u64 (Go.bits .andNot .u64 (fr : Int) 9218868437227405312) (IntKind.u64.wrap ((IntKind.u64.wrap (IntKind.i64.wrap (n23 + 1023))) * 2 ^ (min (52 : Int).toNat (IntKind.bits .u64))))).toNat
def G5 (n : Int) : Int := if (if n < 5000 then n else 5000) > (-5000) then (if n < 5000 then n else 5000) else (-5000)
def Iw (x : Nat) (n : Int) : Nat := Al (Gb x (G5 n))
def Ie (x : Nat) : Int := if ordB x 0 == some .lt then 0 else if ordB x 0 == some .eq then 1 else if ordB x 0 == some .gt then 2 else 3
theorem Z4 {x : Nat} (h : infB x = true) : ordB (x % 9223372036854775808) 9218868437227405311 = some .gt := by
 simp only [infB, decide_eq_true_eq] at h
 rw [h]; decide +kernel
theorem Xi (s : Bool) (t : Nat) (h : t % 4503599627370496 ≠ 0) : nanB (Ieee.double.write (.nan s t)) = true := by
 unfold Ieee.Format.write Ieee.Format.word
 simp only [Uw, Zy, Ru, nanB, decide_eq_true_eq]
 split <;> omega
theorem Z5 (t : Nat) : Ieee.double.quiet t % 4503599627370496 ≠ 0 := by
 unfold Ieee.Format.quiet
 have e : (2 : Nat) ^ (Ieee.double.fractionBits - 1) = 2 ^ 51 := by decide
 rw [e]
 intro h
 have h1 : ((t ||| 2 ^ 51) % 2 ^ 52).testBit 51 = false := by
  rw [show (2 : Nat) ^ 52 = 4503599627370496 from by decide, h]; simp
 rw [Nat.testBit_mod_two_pow, Nat.testBit_or, Nat.testBit_two_pow] at h1
 simp at h1
section
variable {P : Program}
theorem Xj {x : Nat} (hn : nanB x = false) (w : World) : (Extern.MathFloor.toIntegral "math.archFloor" .down #[.float .f64 x]).run P w = .ok (.float .f64 (Ieee.double.write ((Ieee.double.read x).integral .down))) w := by
 have e : Extern.MathFloor.toIntegral "math.archFloor" .down #[.float .f64 x] = (match Ieee.double.read x with
  | .nan s t =>
   if FloatKind.f64.format.quiet t = t then pure (.float .f64 x) else do
   let kept ← choose (.extern "math.Floor,Ceil,Trunc,RoundToEven.signallingNaN kept" 2)
   pure (.float .f64 (if kept == 1 then x else FloatKind.f64.encode (.nan s (FloatKind.f64.format.quiet t))))
  | d => pure (.float .f64 (FloatKind.f64.encode (d.integral .down)))) := rfl
 rw [e]
 cases hi : infB x
 ·obtain ⟨m, i, hr, -⟩ := Hh hn hi
  rw [hr]; rfl
 ·rw [Em hi]; rfl
theorem Ux {x : Nat} (hn : nanB x = true) (hx : x < 18446744073709551616) (w : World) : ∃ y n, (Extern.MathFloor.toIntegral "math.archFloor" .down #[.float .f64 x]).run P w = .ok (.float .f64 y) { w with drawn := w.drawn + n } ∧ nanB y = true ∧ y < 18446744073709551616 := by
 have e : Extern.MathFloor.toIntegral "math.archFloor" .down #[.float .f64 x] = (match Ieee.double.read x with
  | .nan s t =>
   if FloatKind.f64.format.quiet t = t then pure (.float .f64 x) else do
   let kept ← choose (.extern "math.Floor,Ceil,Trunc,RoundToEven.signallingNaN kept" 2)
   pure (.float .f64 (if kept == 1 then x else FloatKind.f64.encode (.nan s (FloatKind.f64.format.quiet t))))
  | d => pure (.float .f64 (FloatKind.f64.encode (d.integral .down)))) := rfl
 rw [e]
 obtain ⟨t, ht⟩ := Ld hn
 rw [ht]
 simp only
 split
 ·exact ⟨x, 0, rfl, hn, hx⟩
 ·refine ⟨if ((Question.extern "math.Floor,Ceil,Trunc,RoundToEven.signallingNaN kept" 2).cut (w.tape w.drawn (Question.extern "math.Floor,Ceil,Trunc,RoundToEven.signallingNaN kept" 2)) == 1) then x else FloatKind.f64.encode (.nan (negB x) (FloatKind.f64.format.quiet t)), 1, ?_, ?_⟩
  ·simp only [Sem.run_bind, run_choose, Question.forced, Result.andThen_ok, Sem.run_pure]
   rfl
  ·split
   ·exact ⟨hn, hx⟩
   ·exact ⟨Xi _ _ (Z5 t), L5 _⟩
end
theorem We {x y r : Nat} (h : floatBits .mul .f64 x y = some r ∨ (floatBits .mul .f64 x y = none ∧ nanB r = true ∧ r < 18446744073709551616)) : Al r = Al (mulF x y) ∧ r < 18446744073709551616 := by
 have e : floatBits .mul .f64 x y = Ieee.double.mul x y := rfl
 rw [e] at h
 rcases h with h | ⟨h, hn, hl⟩
 ·have : mulF x y = r := by unfold mulF; rw [h]
  exact ⟨by rw [this], by rw [← this]; exact Lf _ _⟩
 ·have : mulF x y = El := by unfold mulF; rw [h]
  rw [this, E2 hn]; exact ⟨by decide, hl⟩
theorem Wg {x y r : Nat} (h : floatBits .quo .f64 x y = some r ∨ (floatBits .quo .f64 x y = none ∧ nanB r = true ∧ r < 18446744073709551616)) : Al r = Al (divF x y) ∧ r < 18446744073709551616 := by
 have e : floatBits .quo .f64 x y = Ieee.double.div x y := rfl
 rw [e] at h
 rcases h with h | ⟨h, hn, hl⟩
 ·have : divF x y = r := by unfold divF; rw [h]
  exact ⟨by rw [this], by rw [← this]; exact Wd _ _⟩
 ·have : divF x y = El := by unfold divF; rw [h]
  rw [this, E2 hn]; exact ⟨by decide, hl⟩
theorem sub_self {x r : Nat} (h : floatBits .sub .f64 x x = some r ∨ (floatBits .sub .f64 x x = none ∧ nanB r = true ∧ r < 18446744073709551616)) : (ordB r 0 != some .eq) = (nanB x || infB x) := by
 have e : floatBits .sub .f64 x x = Ieee.double.sub x x := rfl
 rw [e] at h
 cases hn : nanB x
 ·cases hi : infB x
  ·obtain ⟨m, i, hr, -⟩ := Hh hn hi
   have : Ieee.double.sub x x = some (Ieee.double.write (.number false 0 i)) := by
    unfold Ieee.Format.sub
    rw [hr]
    simp only [Ieee.Datum.opposite, Ieee.Datum.sum, Option.map_some]
    have : Ieee.signed (negB x) m (i - min i i).toNat + Ieee.signed (!negB x) m (i - min i i).toNat = 0 := by
     unfold Ieee.signed; cases negB x <;> simp <;> omega
    rw [this]
    simp
   rw [this] at h
   rcases h with h | ⟨h, -⟩
   ·cases h
    have : Ieee.double.write (.number false 0 i) = 0 := by unfold Ieee.Format.write Ieee.Format.nearest Ieee.Format.word; simp
    rw [this]; decide +kernel
   ·cases h
  ·have : Ieee.double.sub x x = none := by
    unfold Ieee.Format.sub
    rw [Em hi]
    simp [Ieee.Datum.opposite, Ieee.Datum.sum]
   rw [this] at h
   rcases h with h | ⟨-, h, -⟩
   ·cases h
   ·rw [(Rv h).1]; rfl
 ·have : Ieee.double.sub x x = none := by
   unfold Ieee.Format.sub
   obtain ⟨t, ht⟩ := Ld hn
   rw [ht]; rfl
  rw [this] at h
  rcases h with h | ⟨-, h, -⟩
  ·cases h
  ·rw [(Rv h).1]; rfl
end Go.Sx
