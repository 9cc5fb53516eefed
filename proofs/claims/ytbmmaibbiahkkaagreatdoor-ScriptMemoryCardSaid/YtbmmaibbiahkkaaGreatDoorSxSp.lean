/- A round of a range over a function that may panic. Conditions: none. -/
import Derived.Test.YtbmmaibbiahkkaaGreatDoorSxJr
import Derived.RangeFuncLeaves
import Derived.RangeFuncGives
import Derived.RangeFuncRecord
namespace Go.Sx
variable {P : Program}
def D1 (P : Program) (l : Nat) (R : Ending → World → Prop) : Exit → Act → World → Prop
 | .normal, _, w => ∃ v w', (Instr.endRound l none).run P w = .ok v w' ∧ R (.returned v) w'
 | .panic ch, a, w => a.defers = [] ∧ R (.panicked ch) w
 | _, _, _ => False
theorem L6 {l n : Nat} {f : FuncId} {fn : Func} {tmps : Array Value} {assign body : Code} {w : World} {R : Ending → World → Prop} (hf : P.funcs[f]? = some fn)
  (h : assign.wpIn (Fence.wide.inRound l) n P (Exit.then (fun a₁ w₁ => ∃ w₂, (Instr.beginRound l).run P w₁ = .ok () w₂ ∧ body.wpIn (Fence.wide.inRound l) n P (D1 P l R) a₁ w₂) (fun _ _ _ => False)) { tmps := tmps, defers := [] } w) :
  RoundIn Fence.wide n P l f tmps assign body w R := by
 refine ⟨trivial, fun c cs _ => ?_⟩
 obtain ⟨b, hb⟩ : ∃ b : Frame, b = { (default : Frame) with fn := f, kind := .normal, roundOf := some l } := ⟨_, rfl⟩
 have hstart : Frame.round l f tmps assign body .normal = b.atR { tmps := tmps, defers := [] } [.code assign, .beginRound, .code body] := by subst hb; simp [Frame.round, Frame.atR]
 have hro : b.roundOf = some l := by rw [hb]
 have hfn : b.fn = f := by rw [hb]
 have any : ∀ m : Machine, m.fenced P Fence.wide := fun m => fenced_wide P m
 obtain ⟨e, a₁, w₁, hq0, harr⟩ := h b [.beginRound, .code body] (c :: cs) hro trivial (room_wide _)
 obtain ⟨rfl, w₂, hbegin, hbody⟩ : e = .normal ∧ ∃ w₂, (Instr.beginRound l).run P w₁ = .ok () w₂ ∧ body.wpIn (Fence.wide.inRound l) n P (D1 P l R) a₁ w₂ := by
  cases e with
  | normal => exact ⟨rfl, hq0⟩
  | _ => exact hq0.elim
 have t1 : StepsIn (Machine.fenced P Fence.wide) P (lone (b.atR a₁ [.beginRound, .code body]) (c :: cs) w₁) (lone (b.atR a₁ [.code body]) (c :: cs) w₂) := .one (any _) (stepR_beginRound hro hbegin)
 obtain ⟨e₂, a₂, w₃, hq, harr₂⟩ := hbody b [] (c :: cs) hro trivial (room_wide _)
 have t2 := (StepsIn.trans harr t1)
 rw [← hstart] at t2
 cases e₂ with
 | normal =>
  obtain ⟨v, w₄, hend, hR⟩ := hq
  exact ⟨.returned v, w₄, hR, StepsIn.trans t2 (StepsIn.trans harr₂ (.one (any _) (stepR_round_end hro (by rw [hb]) hend)))⟩
 | panic ch =>
  obtain ⟨hd, hR⟩ := hq
  obtain ⟨todo, hs⟩ := harr₂
  refine ⟨.panicked ch, w₃, hR, StepsIn.trans t2 (StepsIn.trans hs (.one (any _) (step_leave_panicked ⟨rfl, hd, fn, ?_⟩)))⟩
  show P.funcs[b.fn]? = some fn
  rw [hfn]; exact hf
 | _ => exact hq.elim
theorem Aa.callsAt {f : FuncId} {args : List Value} {R : Ending → World → Prop} {w w₀ : World} (hE : Enters P f) (h : Aa P f args w R) (hw : Ae w w₀) : Calls P f args.toArray w₀ fun e w₀' => ∃ w', Ae w' w₀' ∧ Kept w w₀ w' w₀' ∧ R e w' := by
 rcases h.out with h | h
 ·exact h.2 w₀ hw
 ·obtain ⟨a, w₀', w', hrun, -, -, v, hv, -⟩ := h w₀ hw
  rw [Bs hE] at hrun
  cases hrun; cases hv
theorem D2 {v W : World} {l : Nat} {o : Obj} (h : Ae v W) (hl : v.heap[l]? = some hole) : Ae v (W.putObj l o) := by
 refine ⟨h.os, h.tape, h.drawn, h.output, by rw [h.size]; simp [World.putObj], fun b => ?_⟩
 by_cases hb : b = l
 ·subst hb; exact .inr hl
 ·rcases h.block b with e | e
  ·left; rw [e, World.putObj_heap_other hb]
  ·exact .inr e
def wpAt (P : Program) (f : FuncId) (c : Code) (Q : Exit → Act → World → Prop) (a : Act) (w : World) : Prop :=
 ∀ (b : Frame) (k : List Item) (cs : List Frame), b.fn = f → ∃ e a' w', Q e a' w' ∧ Arrives P (lone (b.at a (.code c :: k)) cs w) b k cs e a' w'
theorem Dj {f : FuncId} {c : Code} {Q : Exit → Act → World → Prop} {a : Act} {w : World} (h : c.wp P Q a w) : wpAt P f c Q a w := fun b k cs _ => h b k cs
theorem Cl {f : FuncId} {x y : Code} {Q : Exit → Act → World → Prop} {a : Act} {w : World} (h : wpAt P f x (fun e a w => e = .normal ∧ wpAt P f y Q a w ∨ e ≠ .normal ∧ Q e a w) a w) : wpAt P f (.seq x y) Q a w := by
 intro b k cs hb
 obtain ⟨e, a₁, w₁, hq, harr⟩ := h b (.code y :: k) cs hb
 rcases hq with ⟨rfl, hy⟩ | ⟨hne, hq⟩
 ·obtain ⟨e₂, a₂, w₂, hq₂, harr₂⟩ := hy b k cs hb
  exact ⟨e₂, a₂, w₂, hq₂, .of_steps (.head step_seq harr) harr₂⟩
 ·refine ⟨e, a₁, w₁, hq, .of_steps (.one step_seq) (.pass (x := .code y) rfl (fun _ _ => .inl hne) harr)⟩
theorem L9 {f : FuncId} {id : Nat} {c : Code} {Q : Exit → Act → World → Prop} {a : Act} {w : World} (h : wpAt P f c (fun e a w => (e = .normal ∨ ∃ ch, e = .panic ch) ∧ Q e a w) a w) : wpAt P f (.block id c) Q a w := by
 intro b k cs hb
 obtain ⟨e, a₁, w₁, ⟨he, hq⟩, harr⟩ := h b (.inBlock id :: k) cs hb
 rcases he with rfl | ⟨ch, rfl⟩
 ·exact ⟨.normal, a₁, w₁, hq, .head step_block (Steps.trans harr (.one step_inBlock))⟩
 ·obtain ⟨todo, hs⟩ := harr
  exact ⟨.panic ch, a₁, w₁, hq, todo, .head step_block hs⟩
theorem Ma {f : FuncId} {g : Operand} {ps : Array Tmp} {assign body : Code} {Q : Exit → Act → World → Prop} {a : Act} {w w₁ w₁' w₂ : World} {l : Nat} {mark : List Deferred} {d : Deferred} {f' : FuncId} {args : Array Value}
  (he : (Instr.enterLoop f a.tmps ps assign body none).run P w = .ok (l, mark) w₁) (hres : (resolve a.eval (rangeCall g l) 0).run P w₁ = .ok d w₁') (hinv : (invoke d.target d.args).run P w₁' = .ok (.enter f' args) w₂)
  (h : Calls P f' args w₂ fun e w₃ => (∃ v, e = .returned v ∧ ∃ w₄, (Instr.endLoop l).run P w₃ = .ok none w₄ ∧ Q .normal { a with defers := mark ++ a.defers } w₄) ∨ ∃ ch, e = .panicked ch ∧ Q (.panic ch) { a with defers := mark ++ a.defers } w₃) :
  wpAt P f (.rangeFunc g ps assign body) Q a w := by
 intro b k cs hb
 obtain ⟨c, hc⟩ : ∃ c : Frame, c = { b with roundOf := none } := ⟨_, rfl⟩
 have hro : c.roundOf = none := by rw [hc]
 have hat : ∀ a k, b.at a k = c.atR a k := fun a k => by rw [Frame.atR_of_none hro, hc]; rfl
 have hcf : c.fn = f := by rw [hc]; exact hb
 rw [← hcf, ← hro] at he
 have s1 := stepR_rangeFunc (P := P) (b := c) (a := a) (k := k) (cs := cs) (w := w) he hres hinv
 obtain ⟨e, w₃, fr, hR, hsteps, hfn, hleave⟩ := h (c.atR { a with defers := mark ++ a.defers } (.inRangeFunc l :: k) :: cs)
 rcases hR with ⟨v, rfl, w₄, hend, hq⟩ | ⟨ch, rfl, hq⟩
 ·refine ⟨.normal, _, w₄, hq, ?_⟩
  show Steps P _ _
  rw [hat, hat]
  have s3 := step_leave_returned (c := c.atR { a with defers := mark ++ a.defers } (.inRangeFunc l :: k)) (cs := cs) hleave
  rw [finish_atR_inRangeFunc l v] at s3
  exact .head s1 (Steps.trans hsteps (.head s3 (.one (stepR_endRangeFunc (jump := none) hend))))
 ·refine ⟨.panic ch, _, w₃, hq, .inRangeFunc l :: k, ?_⟩
  rw [hat, hat, ← Frame.raise_atR]
  exact .head s1 (Steps.trans hsteps (.one (step_leave_panicked hleave)))
def Bw (P : Program) (fn : Func) (tmps : Array Value) (R : Ending → World → Prop) : List Deferred → FrameMode → World → Prop
 | [], u, w => Leaves P fn tmps R [] u w
 | d :: ds, u, w => u ≠ .run ∧ ((∃ r w', d.target = .collected r ∧ (Instr.takeDeferred r).run P w = .ok [] w' ∧ Bw P fn tmps R ds u w') ∨
   ∃ fv cap f args, d.target = .fn fv cap ∧ (invoke d.target d.args).run P w = .ok (.enter f args) w ∧ CallsD P f args u w fun
    | .returned _, u', w' => Bw P fn tmps R ds (settle u') w'
    | .panicked chain, u', w' => Bw P fn tmps R ds (raised u' chain) w'
    | .outgrown, _, w' => R .outgrown w')
theorem Do {fn : Func} {tmps : Array Value} {R : Ending → World → Prop} : ∀ (ds : List Deferred) (u : FrameMode) (w : World) (fr : Frame)
  (cs : List Frame), fr.mode = u → fr.defers = ds → fr.tmps = tmps → P.funcs[fr.fn]? = some fn → fr.kind = .normal → Bw P fn tmps R ds u w →
  ∃ e w' fr', R e w' ∧ Comes P (lone fr cs w) (lone fr' cs w') e ∧ fr'.fn = fr.fn ∧ fr'.leaving P w' e := by
 intro ds
 induction ds with
 | nil => exact fun u w fr cs hu hd ht hf hk h => leaves_steps [] u w fr cs hu hd ht hf hk h
 | cons d ds ih =>
  intro u w fr cs hu hd ht hf hk h
  obtain ⟨hrun, h⟩ := h
  rcases h with ⟨r, w', htar, htake, hrest⟩ | ⟨fv, cap, f, args, htar, hinv, hcall⟩
  ·have h1 := step_collected (cs := cs) (hu ▸ hrun) hd htar htake
   obtain ⟨e', w'', fr', hR', hs', hfn', hl'⟩ := ih u w' { fr with defers := [] ++ ds } cs hu rfl ht hf hk hrest
   exact ⟨e', w'', fr', hR', Comes.of_steps (.one h1) hs', hfn', hl'⟩
  ·have h1 := step_defer (cs := cs) (hu ▸ hrun) hd htar hinv
   obtain ⟨e, u', w', frX, hR, hsteps, hkX, hgo⟩ := hcall { fr with defers := ds } cs hu
   cases e with
   | returned v =>
    have h2 := step_going_returned (c := { { fr with defers := ds } with mode := u' }) (cs := cs) hkX hgo
    obtain ⟨e', w'', fr', hR', hs', hfn', hl'⟩ := ih (settle u') w' { { { fr with defers := ds } with mode := u' } with mode := settle u' } cs rfl rfl ht hf hk hR
    exact ⟨e', w'', fr', hR', Comes.of_steps (.head h1 (Steps.trans hsteps (.one h2))) hs', hfn', hl'⟩
   | panicked chain =>
    have h2 := step_going_panicked (c := { { fr with defers := ds } with mode := u' }) (cs := cs) hgo
    obtain ⟨e', w'', fr', hR', hs', hfn', hl'⟩ := ih (raised u' chain) w' { { { fr with defers := ds } with mode := u' } with mode := raised u' chain } cs rfl rfl ht hf hk hR
    exact ⟨e', w'', fr', hR', Comes.of_steps (.head h1 (Steps.trans hsteps (.one h2))) hs', hfn', hl'⟩
   | outgrown => exact ⟨.outgrown, w', fr, hR, Outgrown.of_steps (.one h1) hsteps, rfl, trivial⟩
theorem Fu {fn : Func} {tmps : Array Value} {R : Ending → World → Prop} {d : Deferred} {ds : List Deferred} {u : Option (List PanicEntry)} {v W : World} {K : Option (List PanicEntry) → World → Prop} (h : D6 P d u v K) (hv : Ae v W)
  (hk : ∀ u' w' W', K u' w' → Ae w' W' → Kept v W w' W' → Bw P fn tmps R ds (Bt u') W') : Bw P fn tmps R (d :: ds) (Bt u) W := by
 obtain ⟨g, cap, dargs, rfl, hE, h⟩ := h.out
 refine ⟨by cases u <;> simp [Bt], .inr ⟨.func g, cap, g, dargs ++ cap, rfl, ?_, fun c cs hm => ?_⟩⟩
 ·simp [invoke, Bs hE]
 ·obtain ⟨e, u', w', fr, hR, hs⟩ := h W hv c cs hm
  refine ⟨e, u', w', fr, ?_, hs⟩
  cases e with
  | returned x =>
   obtain ⟨u'', w'', hset, hh, hkk, hK⟩ := hR
   show Bw P fn tmps R ds (settle u') w'
   rw [hset]; exact hk _ _ _ hK hh hkk
  | panicked c => exact hR.elim
  | outgrown => exact hR.elim
def Nh (P : Program) (fn : Func) (R : Ending → World → Prop) : Exit → Act → World → Prop
 | .normal, a, w | .ret, a, w => Bw P fn a.tmps R a.defers .returning w
 | .panic chain, a, w => Bw P fn a.tmps R a.defers (.panicking chain) w
 | _, _, _ => False
theorem I4 {f : FuncId} {fn : Func} {c : Code} {args : Array Value} {w : World} {R : Ending → World → Prop} (hf : P.funcs[f]? = some fn) (hb : fn.body = some c)
  (h : wpAt P f c (Nh P fn R) { tmps := args ++ Array.replicate (fn.ntmps - args.size) undef, defers := [] } w) : Calls P f args w R := by
 intro cs
 obtain ⟨b, hbe⟩ : ∃ b : Frame, b = { (default : Frame) with fn := f, kind := .normal, roundOf := none } := ⟨_, rfl⟩
 have henter : Frame.enter P f args .normal = b.at { tmps := args ++ Array.replicate (fn.ntmps - args.size) undef, defers := [] } [.code c] := by subst hbe; simp [Frame.enter, Frame.at, hf, hb]
 have hbf : b.fn = f := by rw [hbe]
 have hbk : b.kind = .normal := by rw [hbe]
 have hro : b.roundOf = none := by rw [hbe]
 obtain ⟨e, a', w', hq, harr⟩ := h b [] cs hbf
 rw [← henter] at harr
 rw [← hbf] at hf
 cases e with
 | normal =>
  obtain ⟨e', w'', fr', hR, hs, hfn, hl⟩ := Do a'.defers .returning w' { b.at a' [] with mode := .returning } cs rfl rfl rfl hf hbk hq
  have t1 : Steps P (lone (b.at a' []) cs w') (lone { b.at a' [] with mode := .returning } cs w') := by
   have := stepR_end (P := P) (b := b) (a := a') (cs := cs) (w := w') hro
   rw [Frame.atR_of_none hro] at this; exact .one this
  exact ⟨e', w'', fr', hR, Comes.of_steps (Steps.trans harr t1) hs, hfn.trans hbf, hl⟩
 | ret =>
  obtain ⟨todo, hs₀⟩ := harr
  obtain ⟨e', w'', fr', hR, hs, hfn, hl⟩ := Do a'.defers .returning w' { b.at a' todo with mode := .returning } cs rfl rfl rfl hf hbk hq
  exact ⟨e', w'', fr', hR, Comes.of_steps hs₀ hs, hfn.trans hbf, hl⟩
 | panic ch =>
  obtain ⟨todo, hs₀⟩ := harr
  obtain ⟨e', w'', fr', hR, hs, hfn, hl⟩ := Do a'.defers (.panicking ch) w' { b.at a' todo with mode := .panicking ch } cs rfl rfl rfl hf hbk hq
  exact ⟨e', w'', fr', hR, Comes.of_steps hs₀ hs, hfn.trans hbf, hl⟩
 | exit id => exact hq.elim
 | goto l => exact hq.elim
 | outgrown => exact hq.elim
end Go.Sx
