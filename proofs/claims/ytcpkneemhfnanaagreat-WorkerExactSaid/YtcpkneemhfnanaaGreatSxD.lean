/- Code by its form: sequences, tests, blocks, loops. Conditions: none. -/
import Derived.Test.YtcpkneemhfnanaaGreatSxB
namespace Go.Sx
set_option linter.unusedSimpArgs false
section
variable (P : Program) (H : Ha)
def dsts : List Oper → List Nat
 | [] => []
 | o :: r => match o.dst with | some d => d :: dsts r | none => dsts r
def writes : Code → List Nat
 | .region _ ops _ => dsts ops.toList
 | .seq a b => writes a ++ writes b
 | .cond _ a b => writes a ++ writes b
 | .block _ b => writes b
 | .loop b => writes b
 | .scope b => writes b
 | _ => []
def Ct : Code → Option Nat
 | .region id _ _ => some id
 | .seq a b => match Ct a with | some i => some i | none => Ct b
 | .cond _ a b => match Ct a with | some i => some i | none => Ct b
 | .block _ b => Ct b
 | .loop b => Ct b
 | .scope b => Ct b
 | _ => none
def Bi (o : Oper) : Bool :=
 match o.op with
 | .move _ | .assign _ | .pick _ _ _ | .load _ _ | .nilCheck _ | .fieldAddr _ _ _ | .indexAddr _ _ _ | .slice _ _ _ _ _ | .unOp .not _ _ => true
 | .index _ _ _ | .unOp _ _ _ | .convert _ _ _ | .build _ _ | .field _ _ _ | .extract _ _ | .makeInterface _ _ | .makeFunc _ _ _ => !Ff H o
 | .binOp .quo _ _ _ _ | .binOp .rem _ _ _ _ => false
 | .binOp _ _ _ _ _ => !Ff H o
 | .call { callee := .builtin _, .. } => !Ff H o
 | _ => false
def Ij : List Oper → Bool
 | [] => true
 | o :: r => cond (Bi H o) (Ij r) false
def Ad (w w' : World) : List Addr → Prop
 | [] => True
 | a :: r => w'.heap[a.block]? = w.heap[a.block]? ∧ Ad w w' r
def waitsFor (ops : Array Oper) (j i : Nat) : Bool :=
 match ops[j]? with
 | some o => o.after.any fun e => Region.binds .any e && e.on == i
 | none => false
def A9 (bars : List Nat) : Ord → Option Nat
 | .nil => none
 | .cons i r => cond (C4 bars i) (some i) (A9 bars r)
 | .alt a _ => A9 bars a
def Ord.heads : Ord → List Nat
 | .nil => []
 | .cons i _ => [i]
 | .alt a b => a.heads ++ b.heads
def Ord.len : Ord → Nat
 | .nil => 0
 | .cons _ r => r.len + 1
 | .alt a b => max a.len b.len
def V7 : Option Nat → Option Nat → Bool
 | none, none => true
 | some a, some b => Nat.beq a b
 | _, _ => false
def N2 (P : Program) (o : Oper) : Bool := match o.op with | .load t _ => (match sizeOf P t with | some (_ + 1) => true | _ => false) | _ => true
def Jm (env : List (Nat × EV)) (o : Oper) : List Nat :=
 match o.op with
 | .load _ x => match ope env x with
  | some (.loc id _) => [id]
  | _ => []
 | _ => []
def N3 (i : Nat) : Nat → List Oper → List Nat → List Nat
 | _, [], acc => acc
 | c, o :: r, acc => N3 i (c + 1) r (cond (o.after.any fun e => Region.binds .any e && (Nat.beq e.on i || C4 acc e.on)) (c :: acc) acc)
def Rn (L : Array Bool) : List Nat → Bool
 | [] => true
 | c :: r => cond (L.getD c true) false (Rn L r)
def N4 (ops : Array Oper) (L : Array Bool) (j : Option Nat) (i : Nat) : Bool := match j with
 | some j => cond (waitsFor ops j i && !L.getD j true) true (C4 (N3 i 0 ops.toList []) j && Rn L (N3 i 0 ops.toList []))
 | none => true
def Un (o : Oper) : Bool := match o.op with | .load _ _ => true | _ => false
def Uo (ops : Array Oper) (i : Nat) : Bool := match ops[i]? with | some o => !Un o | none => false
def Up : Option Nat → Nat → Bool
 | some j, i => !Nat.beq j i
 | none, _ => true
def Ik (ops : Array Oper) (bars : List Nat) (rest : Ord) (L : Array Bool) (i : Nat) : Bool :=
 cond (Uo ops i && Up (A9 bars rest) i) true (N4 ops L (A9 bars rest) i) && Region.free .any ops L i && (Region.ready .any ops L).contains i && !C4 bars i
def V8 (o : Oper) : Bool := match o.op with | .store _ _ _ => true | _ => false
def Il : List Nat → List Nat → Bool
 | [], [] => true
 | a :: r, b :: s => cond (Nat.beq a b) (Il r s) false
 | _, _ => false
def Fg (env : List (Nat × EV)) (o : Oper) : List Addr :=
 match o.op with
 | .load _ x => match ope env x with
  | some (.val (.pointer (some ad))) => [ad]
  | _ => []
 | _ => []
def Ca (n : Nat) (ops : Array Oper) (bars : List Nat) (K : Exit → DS → World → Prop) : Ord → Bool → Array Bool → List Addr → List Nat → List (Nat × LB) → DS → World → Prop
  | .nil, _, L, _, _, _, s, w => Ay (Il (Region.ready .any ops L) []) (K .normal s w)
  | .alt a b, chk, L, T, TL, F, s, w => Ay (V7 (A9 bars a) (A9 bars b)) (Ay (!chk || Il (Region.ready .any ops L) (Ord.heads (.alt a b)))
      (Ca n ops bars K a false L T TL F s w ∧ Ca n ops bars K b false L T TL F s w))
  | .cons i rest, chk, L, T, TL, F, s, w =>
    match ops[i]? with
    | none => False
    | some o =>
      let L' := L.setIfInBounds i true
      let quiet (s : DS) : Prop := A1 P H F o s (fun e s' w' => putE n s' o.dst e fun s'' => Ca n ops bars K rest true L' (Fg s.env o ++ T) (Jm s.env o ++ TL) F s'' w') (fun _ _ => False) w
      let loud (s : DS) : Prop := cond (C4 bars i)
        (A1 P H F o s (fun e s' w' => putE n s' o.dst e fun s'' => Ca n ops bars K rest true L' [] [] F s'' w') (fun c w' => K (.panic c) { s with env := drop (dsts ops.toList) s.env } w') w)
        (A1 P H (pick TL s.loc ++ F) o { s with loc := drop TL s.loc } (fun e s' w' => Ad w w' T ∧ putE n { s' with loc := s'.loc ++ pick TL s.loc } o.dst e fun s'' => Ca n ops bars K rest true L' T TL F s'' w') (fun c w' => K (.panic c) { s with env := drop (dsts ops.toList) s.env, loc := drop TL s.loc ++ pick TL s.loc } w') w)
      let run (s : DS) : Prop := cond (Bi H o) (Ay (chk && N2 P o && Ik ops bars rest L i) (quiet s)) (Ay (!chk || Il (Region.ready .any ops L) [i]) (loud s))
      let skip (s : DS) : Prop := Ay (cond chk (Ik ops bars rest L i) (!C4 bars i)) (putE n s o.dst (.val undef) fun s' => Ca n ops bars K rest true L' T TL F s' w)
      match o.guard with
      | none => run s
      | some (j, want) => match Mt ops.toList j with
        | none => False
        | some t => match get s.env t with
          | some (.lit true) => cond want (run s) (skip s)
          | some (.lit false) => cond want (skip s) (run s)
          | some (.val (.bool b)) => Ay (Nat.blt t n)
            ((b = true → let s' : DS := { s with env := (t, .lit true) :: s.env }; cond want (run s') (skip s')) ∧
             (b = false → let s' : DS := { s with env := (t, .lit false) :: s.env }; cond want (skip s') (run s')))
          | some (.val (.tuple _)) => skip s
          | _ => False
def Gs : Code → Nat
 | .seq a b => Gs a + Gs b
 | .cond _ a b => Gs a + Gs b
 | .block _ b => Gs b
 | .loop b => Gs b + 1
 | .scope b => Gs b
 | _ => 0
def Zu (l : List (Nat × Bz)) (b : Code) : Option Bz := match Ct b with | some i => get l (i + 1000 * Gs b) | none => none
def hintOf (l : List (Nat × Bz)) (b : Code) : Option Bz := match Ct b with | some i => get l i | none => none
def Dr (s : DS) (F : List (Nat × LB)) (w : World) : List ResultVar → (List Value → Prop) → Prop
 | [], k => k []
 | .tmp t :: r, k => match get s.env t with
  | some e => match e.toV with
   | some v => Dr s F w r fun vs => k (v :: vs)
   | none => False
  | none => False
 | .cell a t :: r, k => addrOf s.env (.tmp a)
  (fun id off => match getL s F id, aggB P t with
   | some lb, some false => match nthL lb.cells off with | some v => Dr s F w r fun vs => k (v :: vs) | none => False
   | some lb, some true => match sizeOf P t with
    | some n => Ay (Nat.ble (off + n) lb.cells.length) (Dr s F w r fun vs => k (.agg (K3 n (Ii off lb.cells)).toArray :: vs))
    | none => False
   | _, _ => False)
  (fun ad => match aggB P t, zeroOf P t, sizeOf P t with
   | some false, some z, _ => exV (SV.of z) fun v => w.cell? ad = some v ∧ Dr s F w r fun vs => k (v :: vs)
   | some true, some (.agg cs), some n => Ay (Nat.beq cs.toList.length n) (ex1L (S1.ofL cs.toList) fun us => Ae w ad 0 us ∧ Dr s F w r fun vs => k (.agg us.toArray :: vs))
   | _, _, _ => False)
def Kn : List Value → Value
 | [v] => v
 | vs => .tuple vs.toArray
def Hb (s : DS) : List (Nat × S1) → Option (List Value)
 | [] => some []
 | (t, _) :: r => match get s.env t with
  | some e => match e.toV with
   | some v => match Hb s r with
    | some vs => some (v :: vs)
    | none => none
   | none => none
  | none => none
def F7 (s : DS) : List (Nat × TypeId × List S1) → Option (List Value)
 | [] => some []
 | (id, ty, sh) :: r => match get s.loc id with
  | some lb => match F7 s r with
   | some vs => match Nat.beq lb.cells.length sh.length && Nat.beq lb.ty ty with
    | true => some (lb.cells ++ vs)
    | false => none
   | none => none
  | none => none
def Hc (s : DS) (h : Bz) : Option (List Value) :=
 match Hb s h.slots with
 | some a => match F7 s h.cells with
  | some b => some (a ++ b)
  | none => none
 | none => none
def N5 : List (Nat × S1) → List S1
 | [] => []
 | (_, s) :: r => s :: N5 r
def N6 : List (Nat × TypeId × List S1) → List S1
 | [] => []
 | (_, _, s) :: r => s ++ N6 r
def B0 (h : Bz) : List S1 := N5 h.slots ++ N6 h.cells
def Ej : List (Nat × S1) → List Value → List (Nat × EV) → List (Nat × EV)
 | (t, _) :: r, v :: vs, l => (t, .val v) :: Ej r vs l
 | _, _, l => l
def Df : List (Nat × TypeId × List S1) → List Value → List (Nat × LB)
 | (id, ty, sh) :: r, vs => (id, ⟨ty, K3 sh.length vs⟩) :: Df r (Ii sh.length vs)
 | [], _ => []
def keys {α : Type} : List (Nat × α) → List Nat
 | [] => []
 | (i, _) :: r => i :: keys r
def Ea (s : DS) (h : Bz) (ws : List Nat) (vs : List Value) : DS :=
 { env := Ej h.slots vs (drop ws s.env), loc := Df h.cells (Ii h.slots.length vs), defs := s.defs }
def As (s : DS) (h : Bz) : List (Nat × LB) := drop (keys h.cells) s.loc
def V9 (h : Bz) (ws : List Nat) (F : List (Nat × LB)) (body : List (Nat × LB) → (Exit → DS → World → Prop) → DS → World → Prop) (K : Exit → DS → World → Prop) (s : DS) (w : World) : Prop :=
 match Hc s h with
 | none => False
 | some vs₀ => Ay (is1L (B0 h) vs₀) (
  ∃ (I : FunT (World → Prop) (B0 h)) (μ : FunT (World → Nat) (B0 h)), apV (fun _ => False) (B0 h) I vs₀ w ∧
   V3 (B0 h) fun vs => ∀ w : World, apV (fun _ => False) (B0 h) I vs w →
    body (As s h ++ F) (fun e s' w' => match e with
     | .normal => match Hc s' h with
      | some vs' => Ay (is1L (B0 h) vs' && Nat.beq s'.defs.length s.defs.length) (apV (fun _ => False) (B0 h) I vs' w' ∧ apV (fun _ => 0) (B0 h) μ vs' w' < apV (fun _ => 0) (B0 h) μ vs w)
      | none => False
     | e => K e { s' with loc := s'.loc ++ As s h } w') (Ea s h ws vs) w)
def Aen (h : Bz) (ws : List Nat) (F : List (Nat × LB)) (a b : List (Nat × LB) → (Exit → DS → World → Prop) → DS → World → Prop) (K : Exit → DS → World → Prop) (s : DS) (w : World) : Prop :=
 ∃ J : FunT (World → Prop) (B0 h),
  a (As s h ++ F) (fun e s' w' => match e with
   | .normal => match Hc s' h with
    | some vs => Ay (is1L (B0 h) vs && Nat.beq s'.defs.length s.defs.length) (apV (fun _ => False) (B0 h) J vs w')
    | none => False
   | e => K e { s' with loc := s'.loc ++ As s h } w') { s with loc := pick (keys h.cells) s.loc } w ∧
  V3 (B0 h) fun vs => ∀ w : World, apV (fun _ => False) (B0 h) J vs w → b F K { env := (Ea s h ws vs).env, loc := (Ea s h ws vs).loc ++ As s h, defs := s.defs } w
def den (n : Nat) : Code → List (Nat × LB) → (Exit → DS → World → Prop) → DS → World → Prop
  | .skip, _, K, s, w => K .normal s w
  | .label _, _, K, s, w => K .normal s w
  | .exit id, _, K, s, w => K (.exit id) s w
  | .ret, _, K, s, w => K .ret s w
  | .region _ ops false, F, K, s, w => Ez P H n F ops.toList K ops.toList s w
  | .region id ops true, F, K, s, w => match get H.draws id with
   | some h => Ay (Region.noSelect ops && Nat.ble h.order.len ops.size) (∀ w', Grew w w' → Ca P H n ops h.bars K h.order true (Array.replicate ops.size false) [] [] F s w')
   | none => Ay (Ij H ops.toList && Region.lexB .any ops) (Ez P H n F ops.toList (fun e s' w' => match e with | .normal => ∀ w'', Grew w' w'' → K .normal s' w'' | _ => False) ops.toList s w)
  | .seq a b, F, K, s, w => match hintOf H.cuts b with
   | some h => Aen h (writes a) F (den n a) (den n b) K s w
   | none => den n a F (fun e s' w' => match e with | .normal => den n b F K s' w' | e => K e s' w') s w
  | .cond c a b, F, K, s, w => match ope s.env c with
    | some (.lit true) => den n a F K s w
    | some (.lit false) => den n b F K s w
    | some (.val (.bool t)) => (t = true → den n a F K s w) ∧ (t = false → den n b F K s w)
    | _ => False
  | .block id b, F, K, s, w => den n b F (fun e s' w' => match e with | .exit i => cond (Nat.beq i id) (K .normal s' w') (K (.exit i) s' w') | e => K e s' w') s w
  | .loop b, F, K, s, w => match Zu H.loops b with
    | none => False
    | some h => V9 h (writes b) F (den n b) K s w
  | _, _, _, _, _ => False
def E0 : Option (List PanicEntry) → FrameMode
 | none => .returning
 | some c => .panicking c
structure Fc (P : Program) (d : Deferred) (u : Option (List PanicEntry)) (w : World) (k : Option (List PanicEntry) → World → Prop) : Prop where
 out : ∃ g cap dargs, d = ⟨.fn (.func g) cap, dargs⟩ ∧ Enters P g ∧ ∀ w₀, A5 w w₀ → CallsD P g (dargs ++ cap) (E0 u) w₀ fun e u' w₀' => match e with
  | .returned _ => ∃ u'' w', settle u' = E0 u'' ∧ A5 w' w₀' ∧ Kept w w₀ w' w₀' ∧ k u'' w'
  | _ => False
def N7 (u : Option (List PanicEntry)) (A : Prop) (B : List PanicEntry → Prop) : Prop :=
 match u with
 | none => A
 | some c => B c
def Im (fn : Func) (R : Ending → World → Prop) (s : DS) : List Deferred → Option (List PanicEntry) → World → Prop
 | [], u, w => N7 u (Dr P s [] w fn.results.toList fun vs => R (.returned (Kn vs)) w) (fun c => R (.panicked c) w)
 | d :: ds, u, w => Fc P d u w fun u' w' => Im fn R s ds u' w'
def Ae4 (fn : Func) (R : Ending → World → Prop) : Exit → DS → World → Prop
 | .normal, s, w | .ret, s, w => Im P fn R s s.defs none w
 | .panic c, s, w => Im P fn R s s.defs (some c) w
 | _, _, _ => False
def Mu : Nat → List Value → List (Nat × EV)
 | _, [] => []
 | i, v :: r => (i, .val v) :: Mu (i + 1) r
def Zv (fn : Func) (args : List Value) (R : Ending → World → Prop) (w : World) : Prop :=
 match fn.body with
 | some c => den P H fn.ntmps c [] (Ae4 P fn R) { env := Mu 0 args, loc := [] } w
 | none => False
end
def conc (ρ : Nat → Nat) : EV → Value
 | .val v => v
 | .lit b => .bool b
 | .loc id off => .pointer (some ⟨ρ id, off, none⟩)
structure Rel (wi wi₀ : World) (n : Nat) (F : List (Nat × LB)) (s : DS) (a : Act) (w w₀ : World) (ρ : Nat → Nat) : Prop where
 size : a.tmps.size = n
 nodef : a.defers = s.defs
 hides : A5 w w₀
 kept : Kept wi wi₀ w w₀
 env : ∀ t e, get s.env t = some e → a.tmps.getD t undef = conc ρ e
 loc : ∀ id lb, getL s F id = some lb → wi.heap.size ≤ ρ id ∧ w₀.heap[ρ id]? = some (.cells lb.cells.toArray lb.ty (0, 0)) ∧ w.heap[ρ id]? = some hole
 inj : ∀ id id' lb lb', getL s F id = some lb → getL s F id' = some lb' → ρ id = ρ id' → id = id'
 disj : ∀ id lb, get F id = some lb → get s.loc id = none
def PinE (env : List (Nat × EV)) (ρ ρ' : Nat → Nat) : Prop := ∀ t id off, (t, EV.loc id off) ∈ env → ρ' id = ρ id
theorem PinE.refl (env : List (Nat × EV)) (ρ : Nat → Nat) : PinE env ρ ρ := fun _ _ _ _ => rfl
theorem F8 {a b : Nat} (h : Nat.beq a b = true) : a = b := Nat.eq_of_beq_eq_true h
theorem B1 {α : Type} (j t : Nat) (v : α) (r : List (Nat × α)) : get ((j, v) :: r) t = if j = t then some v else get r t := by
  simp only [get]
  by_cases h : j = t
  · subst h; simp
  · rw [if_neg h]
    have : Nat.beq j t = false := by cases hb : Nat.beq j t; · rfl
                                     · exact absurd (F8 hb) h
    rw [this]; rfl
theorem get_mem {α : Type} : ∀ {l : List (Nat × α)} {t : Nat} {v : α}, get l t = some v → (t, v) ∈ l
 | (j, u) :: r, t, v, h => by
  rw [B1] at h
  split at h
  ·subst_vars; simp only [Option.some.injEq] at h; subst h; simp
  ·exact List.mem_cons_of_mem _ (get_mem h)
 | [], t, v, h => by simp [get] at h
theorem Ds {l : List Nat} {t : Nat} : C4 l t = true ↔ t ∈ l := by
 induction l with
 | nil => simp [C4]
 | cons j r ih =>
  simp only [C4]
  cases hb : Nat.beq j t
  ·have : j ≠ t := fun h => by subst h; simp at hb
   simp [ih, Ne.symm this]
  ·have := F8 hb; simp [this]
theorem D1 {α : Type} (l : List Nat) (e : List (Nat × α)) (t : Nat) : get (drop l e) t = if t ∈ l then none else get e t := by
 induction e with
 | nil => simp [drop, get]
 | cons x r ih =>
  obtain ⟨j, v⟩ := x
  simp only [drop]
  cases hb : C4 l j
  ·have hj : j ∉ l := fun h => by rw [Ds.2 h] at hb; cases hb
   simp only [cond_false, B1, ih]
   by_cases h : j = t
   ·subst h; simp [hj]
   ·simp [h]
  ·have hj := Ds.1 hb
   simp only [cond_true, ih, B1]
   by_cases h : j = t
   ·subst h; simp [hj]
   ·simp [h]
theorem get_append {α : Type} (x y : List (Nat × α)) (t : Nat) : get (x ++ y) t = match get x t with | some v => some v | none => get y t := by
 induction x with
 | nil => rfl
 | cons p r ih =>
  obtain ⟨j, v⟩ := p
  simp only [List.cons_append, B1, ih]
  split <;> rfl
theorem Ah {b : Bool} {p : Prop} (h : Ay b p) : b = true ∧ p := by
 cases b
 ·exact h.elim
 ·exact ⟨rfl, h⟩
section
variable {P : Program} {H : Ha}
theorem B8 {env : List (Nat × EV)} {a : Act} {ρ : Nat → Nat} (henv : ∀ t e, get env t = some e → a.tmps.getD t undef = conc ρ e) {x : Operand} {e : EV} (h : ope env x = some e) : a.eval x = conc ρ e := by
 cases x with
 | tmp t => exact henv t e h
 | const v =>
  cases v <;> simp only [ope, Option.some.injEq] at h <;> subst h <;> rfl
 | global g => simp only [ope, Option.some.injEq] at h; subst h; rfl
 | func f => simp only [ope, Option.some.injEq] at h; subst h; rfl
theorem K4 {ρ : Nat → Nat} {e : EV} {v : Value} (h : e.toV = some v) : conc ρ e = v := by
 cases e <;> simp only [EV.toV, Option.some.injEq] at h <;> first | (subst h; rfl) | cases h
theorem Hd {env : List (Nat × EV)} {a : Act} {ρ : Nat → Nat} (henv : ∀ t e, get env t = some e → a.tmps.getD t undef = conc ρ e) {x : Operand} {v : Value} (h : opv env x = some v) : a.eval x = v := by
 unfold opv at h
 cases ho : ope env x with
 | none => rw [ho] at h; cases h
 | some e => rw [ho] at h; rw [B8 henv ho]; exact K4 h
theorem F3 {env : List (Nat × EV)} {a : Act} {ρ : Nat → Nat} (henv : ∀ t e, get env t = some e → a.tmps.getD t undef = conc ρ e) : ∀ {xs : List Operand} {vs : List Value}, opvs env xs = some vs → xs.map a.eval = vs
 | [], _, h => by simp only [opvs, Option.some.injEq] at h; subst h; rfl
 | x :: r, vs, h => by
  simp only [opvs] at h
  cases hx : opv env x with
  | none => rw [hx] at h; cases h
  | some v =>
   rw [hx] at h; simp only at h
   cases hr : opvs env r with
   | none => rw [hr] at h; cases h
   | some us =>
    rw [hr] at h; simp only [Option.some.injEq] at h; subst h
    simp only [List.map_cons, Hd henv hx, F3 henv hr]
theorem G1 {env : List (Nat × EV)} {a : Act} {ρ : Nat → Nat} (henv : ∀ t e, get env t = some e → a.tmps.getD t undef = conc ρ e) : ∀ {xs : List (Nat × Operand)} {vs : List (Nat × Value)}, F6 env xs = some vs → xs.map (fun p => (p.1, a.eval p.2)) = vs
 | [], _, h => by simp only [F6, Option.some.injEq] at h; subst h; rfl
 | (i, x) :: r, vs, h => by
  simp only [F6] at h
  cases hx : opv env x with
  | none => rw [hx] at h; cases h
  | some v =>
   rw [hx] at h; simp only at h
   cases hr : F6 env r with
   | none => rw [hr] at h; cases h
   | some us =>
    rw [hr] at h; simp only [Option.some.injEq] at h; subst h
    simp only [List.map_cons, Hd henv hx, G1 henv hr]
theorem Dt {α β : Type} (f : α → β) (xs : Array α) (vs : List β) (h : xs.toList.map f = vs) : xs.map f = vs.toArray := by
 rw [← h]; apply Array.ext'; simp
theorem N8 {env : List (Nat × EV)} {a : Act} {ρ : Nat → Nat} (henv : ∀ t e, get env t = some e → a.tmps.getD t undef = conc ρ e) {o : Oper} {m : Sem Value} (h : Zr env o = some m) : execOp a.eval o = (do pure (Next.value (← m))) := by
 unfold Zr at h
 have ev : ∀ {x : Operand} {v : Value}, opv env x = some v → a.eval x = v := fun h => Hd henv h
 split at h <;> rename_i ho <;> unfold execOp <;> simp only [ho]
 all_goals
  first
  | (cases h; done)
  | (split at h <;> first
    | (cases h; done)
    | (split at h <;> first
      | (cases h; done)
      | (rename_i h1 _ _ h2; simp only [Option.some.injEq] at h; subst h; rw [ev h1, ev h2]))
    | (rename_i h1; simp only [Option.some.injEq] at h; subst h; rw [ev h1]))
  | skip
 case _ =>
  rename_i t ps
  split at h <;> first | (cases h; done) | skip
  rename_i vs h1
  simp only [Option.some.injEq] at h; subst h
  rw [Dt _ ps vs (G1 henv h1)]
 case _ =>
  rename_i fn fs cs
  split at h <;> first | (cases h; done) | skip
  rename_i us h1
  split at h <;> first | (cases h; done) | skip
  rename_i vs h2
  simp only [Option.some.injEq] at h; subst h
  rw [Dt _ fs us (F3 henv h1), Dt _ cs vs (F3 henv h2)]
 case _ => simp only [Option.some.injEq] at h; subst h; rfl
 case _ =>
  rename_i b args argTypes
  split at h <;> first | (cases h; done) | skip
  rename_i vs h1
  have hv := Dt _ args vs (F3 henv h1)
  split at h <;> first | (cases h; done) | skip
  all_goals
   simp only [Option.some.injEq] at h; subst h
   simp only [resolve, pure_bind, invoke, builtin, hv]
theorem Aj {t : TypeId} {d : TypeDesc} (h : P.underlying t = some d) (w : World) : (underlying t).run P w = .ok d w := by
 simp [underlying, h]
theorem Hs {t : TypeId} {b : Bool} (h : aggB P t = some b) (w : World) : (isAgg t).run P w = .ok b w := by
 unfold aggB at h
 unfold isAgg
 cases hu : P.underlying t with
 | none => rw [hu] at h; cases h
 | some d =>
  rw [hu] at h
  simp only [Sem.run_bind, Aj hu, Result.andThen_ok]
  cases d <;> simp only [Option.some.injEq] at h <;> subst h <;> rfl
theorem Bb {t : TypeId} {n : Nat} (h : sizeOf P t = some n) (w : World) : (Go.sizeOf t).run P w = .ok n w := by
 unfold sizeOf at h
 cases hi : P.info? t with
 | none => rw [hi] at h; cases h
 | some i => rw [hi] at h; simp only [Option.some.injEq] at h; subst h; simp [Go.sizeOf, typeInfo, hi]
theorem Io {t : TypeId} {z : Value} (h : zeroOf P t = some z) (w : World) : (zeroValue t).run P w = .ok z w := by
 unfold zeroOf at h
 cases hi : P.info? t with
 | none => rw [hi] at h; cases h
 | some i => rw [hi] at h; simp only at h; simp [zeroValue, typeInfo, hi, h]
theorem Ai {w : World} {a : Addr} : ∀ {vs : List Value} {i : Nat}, Ae w a i vs → ∀ j v, vs[j]? = some v → w.cell? (a.add (i + j)) = some v
 | [], _, _, j, v, h => by simp at h
 | u :: r, i, hc, 0, v, h => by simp at h; subst h; exact hc.1
 | u :: r, i, hc, j + 1, v, h => by
  have := Ai hc.2 j v (by simpa using h)
  rw [show i + (j + 1) = i + 1 + j from by omega]; exact this
theorem Ia {t : TypeId} (hb : aggB P t = some false) {ad : Addr} {v : Value} {w : World} (hc : w.cell? ad = some v) : (loadVar t ad).run P w = .ok v w := by
 unfold loadVar
 simp only [Sem.run_bind, Hs hb, Result.andThen_ok, Bool.false_eq_true, if_false, run_load, hc]
theorem Ib {t : TypeId} (hb : aggB P t = some true) {n : Nat} (hn : sizeOf P t = some n) {ad : Addr} {vs : List Value} {w : World} (hl : vs.length = n) (hc : Ae w ad 0 vs) : (loadVar t ad).run P w = .ok (.agg vs.toArray) w := by
 unfold loadVar
 simp only [Sem.run_bind, Hs hb, Result.andThen_ok, if_true, Bb hn, Sem.run_pure]
 have := run_loadCells_list (P := P) (w := w) ad vs (fun j v h => by have := Ai hc j v h; simpa using this)
 rw [← hl, this]; rfl
theorem Su : ∀ {l : List Value} {i : Nat}, nthL l i = l[i]?
 | [], _ => by simp [nthL]
 | _ :: _, 0 => by simp [nthL]
 | _ :: r, i + 1 => by simp only [nthL, List.getElem?_cons_succ]; exact Su
theorem N9 : ∀ (n : Nat) (l : List Value), K3 n l = l.take n
 | 0, _ => by simp [K3]
 | _ + 1, [] => by simp [K3]
 | n + 1, c :: r => by simp [K3, N9 n r]
theorem K5 : ∀ (n : Nat) (l : List Value), Ii n l = l.drop n
 | 0, _ => by simp [Ii]
 | _ + 1, [] => by simp [Ii]
 | n + 1, _ :: r => by simp [Ii, K5 n r]
theorem cell_of_block {w : World} {b o : Nat} {cs : List Value} {T : TypeId} {fr : Nat × Nat} (h : w.heap[b]? = some (.cells cs.toArray T fr)) : w.cell? ⟨b, o, none⟩ = cs[o]? := by
 simp [World.cell?, h]
theorem Ko {w : World} {b : Nat} {cs : List Value} {T : TypeId} {fr : Nat × Nat} (h : w.heap[b]? = some (.cells cs.toArray T fr)) (off : Nat) : ∀ (vs : List Value) (i : Nat), (∀ j v, vs[j]? = some v → cs[off + i + j]? = some v) → Ae w ⟨b, off, none⟩ i vs
 | [], _, _ => trivial
 | v :: r, i, hv => by
  refine ⟨?_, Ko h off r (i + 1) fun j u hj => ?_⟩
  ·have := hv 0 v (by simp)
   rw [show (⟨b, off, none⟩ : Addr).add i = ⟨b, off + i, none⟩ from by unfold Addr.add; split <;> simp_all, cell_of_block h]
   simpa using this
  ·have := hv (j + 1) u (by simpa using hj)
   rw [show off + (i + 1) + j = off + i + (j + 1) from by omega]; exact this
theorem E1 {env : List (Nat × EV)} {a : Act} {ρ : Nat → Nat} (henv : ∀ t e, get env t = some e → a.tmps.getD t undef = conc ρ e) {x : Operand} {p : Nat → Nat → Prop} {q : Addr → Prop} (h : addrOf env x p q) :
  (∃ id off, a.eval x = .pointer (some ⟨ρ id, off, none⟩) ∧ p id off) ∨ (∃ ad, a.eval x = .pointer (some ad) ∧ q ad) := by
 unfold addrOf at h
 split at h
 ·rename_i id off ho; exact .inl ⟨id, off, B8 henv ho, h⟩
 ·rename_i p ho
  obtain ⟨ad, rfl, hk⟩ := Fw h
  exact .inr ⟨ad, B8 henv ho, hk⟩
 ·exact h.elim
theorem Au (b off n : Nat) : (⟨b, off, none⟩ : Addr).add n = ⟨b, off + n, none⟩ := by
 unfold Addr.add; split
 ·subst_vars; rfl
 ·rfl
theorem Ce {ρ : Nat → Nat} {o : Oper} {v : Value} {k : EV → Prop} (h : Eh H o v k) : ∃ e, conc ρ e = v ∧ k e := by
 unfold Eh at h
 split at h
 ·split at h
  ·exact ⟨_, rfl, h⟩
  ·exact ⟨_, rfl, h⟩
  ·exact h.elim
 ·split at h
  ·exact ⟨_, rfl, h⟩
  ·split at h
   ·exact ⟨_, rfl, h _ rfl⟩
   ·exact h.elim
theorem He {t : TypeId} {φ : Value → Prop} (h : shape P t φ) : ∃ v, φ v := by
 unfold shape at h
 split at h
 ·exact Acz h
 ·exact h.elim
theorem Mv {o : Oper} {s : DS} {k : EV → DS → World → Prop} {w : World} {a : Act} {ρ : Nat → Nat} (henv : ∀ t e, get s.env t = some e → a.tmps.getD t undef = conc ρ e) (hs : Ff H o = false) (h : Ey P H o s k w) :
  ∃ e, k e s w ∧ ∀ w₁, (execOp a.eval o).run P w₁ = .ok (.value (conc ρ e)) w₁ := by
 unfold Ey at h
 split at h
 ·exact h.elim
 ·rename_i m hm
  have hx := N8 henv hm
  split at h
  ·obtain ⟨v, h1, h2⟩ := He h
   obtain ⟨e, he, hk⟩ := Ce (ρ := ρ) h2
   exact ⟨e, hk, fun w₁ => by rw [hx, he]; simp only [Sem.run_bind, h1 w₁, Result.andThen_ok, Sem.run_pure]⟩
  ·rw [hs] at h
   simp only at h
   split at h
   ·rename_i v hv
    obtain ⟨e, he, hk⟩ := Ce (ρ := ρ) h
    exact ⟨e, hk, fun w₁ => by rw [hx, he]; simp only [Sem.run_bind, Ih hv w₁, Result.andThen_ok, Sem.run_pure]⟩
   ·exact h.elim
end
end Go.Sx
