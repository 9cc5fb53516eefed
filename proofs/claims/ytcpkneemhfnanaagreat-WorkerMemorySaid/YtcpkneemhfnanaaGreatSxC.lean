/- Code by its form: sequences, tests, blocks, loops. Conditions: none. -/
import Derived.Test.YtcpkneemhfnanaaGreatSxB
namespace Go.Sx
set_option linter.unusedSimpArgs false

section
variable (P : Program) (H : Hints)

def dsts : List Oper → List Nat
  | [] => []
  | o :: r => match o.dst with | some d => d :: dsts r | none => dsts r

def writes : Code → List Nat
  | .region _ ops _ => dsts ops.toList
  | .seq a b => writes a ++ writes b
  | .cond _ a b => writes a ++ writes b
  | .block _ b => writes b
  | .loop b => writes b
  | .scope b => writes b
  | _ => []

/-- the number of the first region -/
def firstRegion : Code → Option Nat
  | .region id _ _ => some id
  | .seq a b => match firstRegion a with | some i => some i | none => firstRegion b
  | .cond _ a b => match firstRegion a with | some i => some i | none => firstRegion b
  | .block _ b => firstRegion b
  | .loop b => firstRegion b
  | .scope b => firstRegion b
  | _ => none

/-- an operation that leaves the world as it is -/
def quietOp (o : Oper) : Bool :=
  match o.op with
  | .move _ | .assign _ | .pick _ _ _ | .load _ _ | .nilCheck _ | .fieldAddr _ _ _ | .indexAddr _ _ _ | .slice _ _ _ _ _ | .unOp .not _ _ => true
  | .index _ _ _ | .unOp _ _ _ | .convert _ _ _ | .build _ _ | .field _ _ _ | .extract _ _ | .makeInterface _ _ | .makeFunc _ _ _ => !isSem H o
  | .binOp .quo _ _ _ _ | .binOp .rem _ _ _ _ => false
  | .binOp _ _ _ _ _ => !isSem H o
  | .call { callee := .builtin _, .. } => !isSem H o
  | _ => false

def allQuiet : List Oper → Bool
  | [] => true
  | o :: r => cond (quietOp H o) (allQuiet r) false

/-- the block that was read from is as it was -/
def SameB (w w' : World) : List Addr → Prop
  | [] => True
  | a :: r => w'.heap[a.block]? = w.heap[a.block]? ∧ SameB w w' r

def waitsFor (ops : Array Oper) (j i : Nat) : Bool :=
  match ops[j]? with
  | some o => o.after.any fun e => Region.binds .any e && e.on == i
  | none => false
def nextBar (bars : List Nat) : Ord → Option Nat
  | .nil => none
  | .cons i r => cond (elemN bars i) (some i) (nextBar bars r)
  | .alt a _ => nextBar bars a
def Ord.heads : Ord → List Nat
  | .nil => []
  | .cons i _ => [i]
  | .alt a b => a.heads ++ b.heads
def Ord.len : Ord → Nat
  | .nil => 0
  | .cons _ r => r.len + 1
  | .alt a b => max a.len b.len
def sameOpt : Option Nat → Option Nat → Bool
  | none, none => true
  | some a, some b => Nat.beq a b
  | _, _ => false
/-- the operation reads from memory that is there -/
def loadOk (P : Program) (o : Oper) : Bool := match o.op with | .load t _ => (match sizeOf P t with | some (_ + 1) => true | _ => false) | _ => true
/-- the local variable that a load reads from -/
def loadLoc (env : List (Nat × EV)) (o : Oper) : List Nat :=
  match o.op with
  | .load _ x => match ope env x with
    | some (.loc id _) => [id]
    | _ => []
  | _ => []
/-- the operations that wait for number i, straight or through others -/
def above (i : Nat) : Nat → List Oper → List Nat → List Nat
  | _, [], acc => acc
  | c, o :: r, acc => above i (c + 1) r (cond (o.after.any fun e => Region.binds .any e && (Nat.beq e.on i || elemN acc e.on)) (c :: acc) acc)
def undone (L : Array Bool) : List Nat → Bool
  | [] => true
  | c :: r => cond (L.getD c true) false (undone L r)
def barWaits (ops : Array Oper) (L : Array Bool) (j : Option Nat) (i : Nat) : Bool := match j with
  | some j => cond (waitsFor ops j i && !L.getD j true) true (elemN (above i 0 ops.toList []) j && undone L (above i 0 ops.toList []))
  | none => true
/-- number i may be taken first -/
def isLoad (o : Oper) : Bool := match o.op with | .load _ _ => true | _ => false
def noLoad (ops : Array Oper) (i : Nat) : Bool := match ops[i]? with | some o => !isLoad o | none => false
def notBar : Option Nat → Nat → Bool
  | some j, i => !Nat.beq j i
  | none, _ => true
def takeOk (ops : Array Oper) (bars : List Nat) (rest : Ord) (L : Array Bool) (i : Nat) : Bool :=
  cond (noLoad ops i && notBar (nextBar bars rest) i) true (barWaits ops L (nextBar bars rest) i) && Region.free .any ops L i && (Region.ready .any ops L).contains i && !elemN bars i
def isStore (o : Oper) : Bool := match o.op with | .store _ _ _ => true | _ => false
def eqNats : List Nat → List Nat → Bool
  | [], [] => true
  | a :: r, b :: s => cond (Nat.beq a b) (eqNats r s) false
  | _, _ => false

/-- the address that a load reads from -/
def loadAddr (env : List (Nat × EV)) (o : Oper) : List Addr :=
  match o.op with
  | .load _ x => match ope env x with
    | some (.val (.pointer (some ad))) => [ad]
    | _ => []
  | _ => []

/-- a drawn region, read in one order: what is quiet is taken first; what isn't must be alone in its turn, or all that may come up are gone through -/
def denDraw (n : Nat) (ops : Array Oper) (bars : List Nat) (K : Exit → DS → World → Prop) : Ord → Bool → Array Bool → List Addr → List Nat → List (Nat × LB) → DS → World → Prop
  | .nil, _, L, _, _, _, s, w => guardB (eqNats (Region.ready .any ops L) []) (K .normal s w)
  | .alt a b, chk, L, T, TL, F, s, w => guardB (sameOpt (nextBar bars a) (nextBar bars b)) (guardB (!chk || eqNats (Region.ready .any ops L) (Ord.heads (.alt a b)))
      (denDraw n ops bars K a false L T TL F s w ∧ denDraw n ops bars K b false L T TL F s w))
  | .cons i rest, chk, L, T, TL, F, s, w =>
    match ops[i]? with
    | none => False
    | some o =>
      let L' := L.setIfInBounds i true
      let quiet (s : DS) : Prop := denOp P H F o s (fun e s' w' => putE n s' o.dst e fun s'' => denDraw n ops bars K rest true L' (loadAddr s.env o ++ T) (loadLoc s.env o ++ TL) F s'' w') (fun _ _ => False) w
      let loud (s : DS) : Prop := cond (elemN bars i)
        (denOp P H F o s (fun e s' w' => putE n s' o.dst e fun s'' => denDraw n ops bars K rest true L' [] [] F s'' w') (fun c w' => K (.panic c) { s with env := drop (dsts ops.toList) s.env } w') w)
        (denOp P H (pick TL s.loc ++ F) o { s with loc := drop TL s.loc } (fun e s' w' => SameB w w' T ∧ putE n { s' with loc := s'.loc ++ pick TL s.loc } o.dst e fun s'' => denDraw n ops bars K rest true L' T TL F s'' w') (fun c w' => K (.panic c) { s with env := drop (dsts ops.toList) s.env, loc := drop TL s.loc ++ pick TL s.loc } w') w)
      let run (s : DS) : Prop := cond (quietOp H o) (guardB (chk && loadOk P o && takeOk ops bars rest L i) (quiet s)) (guardB (!chk || eqNats (Region.ready .any ops L) [i]) (loud s))
      let skip (s : DS) : Prop := guardB (cond chk (takeOk ops bars rest L i) (!elemN bars i)) (putE n s o.dst (.val undef) fun s' => denDraw n ops bars K rest true L' T TL F s' w)
      match o.guard with
      | none => run s
      | some (j, want) => match dstOf ops.toList j with
        | none => False
        | some t => match get s.env t with
          | some (.lit true) => cond want (run s) (skip s)
          | some (.lit false) => cond want (skip s) (run s)
          | some (.val (.bool b)) => guardB (Nat.blt t n)
            ((b = true → let s' : DS := { s with env := (t, .lit true) :: s.env }; cond want (run s') (skip s')) ∧
             (b = false → let s' : DS := { s with env := (t, .lit false) :: s.env }; cond want (skip s') (run s')))
          | some (.val (.tuple _)) => skip s
          | _ => False

/-- the loops in a piece of code -/
def loopsIn : Code → Nat
  | .seq a b => loopsIn a + loopsIn b
  | .cond _ a b => loopsIn a + loopsIn b
  | .block _ b => loopsIn b
  | .loop b => loopsIn b + 1
  | .scope b => loopsIn b
  | _ => 0
def loopHint (l : List (Nat × LoopHint)) (b : Code) : Option LoopHint := match firstRegion b with | some i => get l (i + 1000 * loopsIn b) | none => none
def hintOf (l : List (Nat × LoopHint)) (b : Code) : Option LoopHint := match firstRegion b with | some i => get l i | none => none

/-- what the function hands back -/
def resVals (s : DS) (F : List (Nat × LB)) (w : World) : List ResultVar → (List Value → Prop) → Prop
  | [], k => k []
  | .tmp t :: r, k => match get s.env t with
    | some e => match e.toV with
      | some v => resVals s F w r fun vs => k (v :: vs)
      | none => False
    | none => False
  | .cell a t :: r, k => addrOf s.env (.tmp a)
    (fun id off => match getL s F id, aggB P t with
      | some lb, some false => match nthL lb.cells off with | some v => resVals s F w r fun vs => k (v :: vs) | none => False
      | some lb, some true => match sizeOf P t with
        | some n => guardB (Nat.ble (off + n) lb.cells.length) (resVals s F w r fun vs => k (.agg (takeL n (dropL off lb.cells)).toArray :: vs))
        | none => False
      | _, _ => False)
    (fun ad => match aggB P t, zeroOf P t, sizeOf P t with
      | some false, some z, _ => exV (SV.of z) fun v => w.cell? ad = some v ∧ resVals s F w r fun vs => k (v :: vs)
      | some true, some (.agg cs), some n => guardB (Nat.beq cs.toList.length n) (ex1L (S1.ofL cs.toList) fun us => CellsAt w ad 0 us ∧ resVals s F w r fun vs => k (.agg us.toArray :: vs))
      | _, _, _ => False)

def oneOrTuple : List Value → Value
  | [v] => v
  | vs => .tuple vs.toArray

/-- the values of a loop's slots -/
def slotVals (s : DS) : List (Nat × S1) → Option (List Value)
  | [] => some []
  | (t, _) :: r => match get s.env t with
    | some e => match e.toV with
      | some v => match slotVals s r with
        | some vs => some (v :: vs)
        | none => none
      | none => none
    | none => none
def cellVals (s : DS) : List (Nat × TypeId × List S1) → Option (List Value)
  | [] => some []
  | (id, ty, sh) :: r => match get s.loc id with
    | some lb => match cellVals s r with
      | some vs => match Nat.beq lb.cells.length sh.length && Nat.beq lb.ty ty with
        | true => some (lb.cells ++ vs)
        | false => none
      | none => none
    | none => none
def hintVals (s : DS) (h : LoopHint) : Option (List Value) :=
  match slotVals s h.slots with
  | some a => match cellVals s h.cells with
    | some b => some (a ++ b)
    | none => none
  | none => none
def slotShapes : List (Nat × S1) → List S1
  | [] => []
  | (_, s) :: r => s :: slotShapes r
def cellShapes : List (Nat × TypeId × List S1) → List S1
  | [] => []
  | (_, _, s) :: r => s ++ cellShapes r
def shapesOf (h : LoopHint) : List S1 := slotShapes h.slots ++ cellShapes h.cells

def setSlots : List (Nat × S1) → List Value → List (Nat × EV) → List (Nat × EV)
  | (t, _) :: r, v :: vs, l => (t, .val v) :: setSlots r vs l
  | _, _, l => l
def setCellsL : List (Nat × TypeId × List S1) → List Value → List (Nat × LB)
  | (id, ty, sh) :: r, vs => (id, ⟨ty, takeL sh.length vs⟩) :: setCellsL r (dropL sh.length vs)
  | [], _ => []
def keys {α : Type} : List (Nat × α) → List Nat
  | [] => []
  | (i, _) :: r => i :: keys r

/-- the state at a loop's head: what it changes are these values; what else its body writes is not known -/
def headOf (s : DS) (h : LoopHint) (ws : List Nat) (vs : List Value) : DS :=
  { env := setSlots h.slots vs (drop ws s.env), loc := setCellsL h.cells (dropL h.slots.length vs), defs := s.defs }
/-- the local variables that a loop leaves alone -/
def frozenOf (s : DS) (h : LoopHint) : List (Nat × LB) := drop (keys h.cells) s.loc

def denLoop (h : LoopHint) (ws : List Nat) (F : List (Nat × LB)) (body : List (Nat × LB) → (Exit → DS → World → Prop) → DS → World → Prop) (K : Exit → DS → World → Prop) (s : DS) (w : World) : Prop :=
  match hintVals s h with
  | none => False
  | some vs₀ => guardB (is1L (shapesOf h) vs₀) (
    ∃ (I : FunT (World → Prop) (shapesOf h)) (μ : FunT (World → Nat) (shapesOf h)), apV (fun _ => False) (shapesOf h) I vs₀ w ∧
      all1L (shapesOf h) fun vs => ∀ w : World, apV (fun _ => False) (shapesOf h) I vs w →
        body (frozenOf s h ++ F) (fun e s' w' => match e with
          | .normal => match hintVals s' h with
            | some vs' => guardB (is1L (shapesOf h) vs' && Nat.beq s'.defs.length s.defs.length) (apV (fun _ => False) (shapesOf h) I vs' w' ∧ apV (fun _ => 0) (shapesOf h) μ vs' w' < apV (fun _ => 0) (shapesOf h) μ vs w)
            | none => False
          | e => K e { s' with loc := s'.loc ++ frozenOf s h } w') (headOf s h ws vs) w)

/-- a cut between a and b: what a leaves is told by J -/
def denCut (h : LoopHint) (ws : List Nat) (F : List (Nat × LB)) (a b : List (Nat × LB) → (Exit → DS → World → Prop) → DS → World → Prop) (K : Exit → DS → World → Prop) (s : DS) (w : World) : Prop :=
  ∃ J : FunT (World → Prop) (shapesOf h),
    a (frozenOf s h ++ F) (fun e s' w' => match e with
      | .normal => match hintVals s' h with
        | some vs => guardB (is1L (shapesOf h) vs && Nat.beq s'.defs.length s.defs.length) (apV (fun _ => False) (shapesOf h) J vs w')
        | none => False
      | e => K e { s' with loc := s'.loc ++ frozenOf s h } w') { s with loc := pick (keys h.cells) s.loc } w ∧
    all1L (shapesOf h) fun vs => ∀ w : World, apV (fun _ => False) (shapesOf h) J vs w → b F K { env := (headOf s h ws vs).env, loc := (headOf s h ws vs).loc ++ frozenOf s h, defs := s.defs } w

def den (n : Nat) : Code → List (Nat × LB) → (Exit → DS → World → Prop) → DS → World → Prop
  | .skip, _, K, s, w => K .normal s w
  | .label _, _, K, s, w => K .normal s w
  | .exit id, _, K, s, w => K (.exit id) s w
  | .ret, _, K, s, w => K .ret s w
  | .region _ ops false, F, K, s, w => denOps P H n F ops.toList K ops.toList s w
  | .region id ops true, F, K, s, w => match get H.draws id with
   | some h => guardB (Region.noSelect ops && Nat.ble h.order.len ops.size) (∀ w', Grew w w' → denDraw P H n ops h.bars K h.order true (Array.replicate ops.size false) [] [] F s w')
   | none => guardB (allQuiet H ops.toList && Region.lexB .any ops) (denOps P H n F ops.toList (fun e s' w' => match e with | .normal => ∀ w'', Grew w' w'' → K .normal s' w'' | _ => False) ops.toList s w)
  | .seq a b, F, K, s, w => match hintOf H.cuts b with
   | some h => denCut h (writes a) F (den n a) (den n b) K s w
   | none => den n a F (fun e s' w' => match e with | .normal => den n b F K s' w' | e => K e s' w') s w
  | .cond c a b, F, K, s, w => match ope s.env c with
    | some (.lit true) => den n a F K s w
    | some (.lit false) => den n b F K s w
    | some (.val (.bool t)) => (t = true → den n a F K s w) ∧ (t = false → den n b F K s w)
    | _ => False
  | .block id b, F, K, s, w => den n b F (fun e s' w' => match e with | .exit i => cond (Nat.beq i id) (K .normal s' w') (K (.exit i) s' w') | e => K e s' w') s w
  | .loop b, F, K, s, w => match loopHint H.loops b with
    | none => False
    | some h => denLoop h (writes b) F (den n b) K s w
  | _, _, _, _, _ => False

def modeOf : Option (List PanicEntry) → FrameMode
  | none => .returning
  | some c => .panicking c
/-- a call that was put off is made -/
structure DefersW (P : Program) (d : Deferred) (u : Option (List PanicEntry)) (w : World) (k : Option (List PanicEntry) → World → Prop) : Prop where
  out : ∃ g cap dargs, d = ⟨.fn (.func g) cap, dargs⟩ ∧ Enters P g ∧ ∀ w₀, Hides w w₀ → CallsD P g (dargs ++ cap) (modeOf u) w₀ fun e u' w₀' => match e with
    | .returned _ => ∃ u'' w', settle u' = modeOf u'' ∧ Hides w' w₀' ∧ Kept w w₀ w' w₀' ∧ k u'' w'
    | _ => False
def leaveK (u : Option (List PanicEntry)) (A : Prop) (B : List PanicEntry → Prop) : Prop :=
  match u with
  | none => A
  | some c => B c
/-- the calls that were put off, then the end -/
def denLeave (fn : Func) (R : Ending → World → Prop) (s : DS) : List Deferred → Option (List PanicEntry) → World → Prop
  | [], u, w => leaveK u (resVals P s [] w fn.results.toList fun vs => R (.returned (oneOrTuple vs)) w) (fun c => R (.panicked c) w)
  | d :: ds, u, w => DefersW P d u w fun u' w' => denLeave fn R s ds u' w'
/-- the whole function -/
def bodyK (fn : Func) (R : Ending → World → Prop) : Exit → DS → World → Prop
  | .normal, s, w | .ret, s, w => denLeave P fn R s s.defs none w
  | .panic c, s, w => denLeave P fn R s s.defs (some c) w
  | _, _, _ => False

def envOf : Nat → List Value → List (Nat × EV)
  | _, [] => []
  | i, v :: r => (i, .val v) :: envOf (i + 1) r

def denFn (fn : Func) (args : List Value) (R : Ending → World → Prop) (w : World) : Prop :=
  match fn.body with
  | some c => den P H fn.ntmps c [] (bodyK P fn R) { env := envOf 0 args, loc := [] } w
  | none => False

end
end Go.Sx
