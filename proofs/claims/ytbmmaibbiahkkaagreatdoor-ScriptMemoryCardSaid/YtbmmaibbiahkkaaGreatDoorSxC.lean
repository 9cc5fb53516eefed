/- Code by its form: sequences, tests, blocks, loops. Conditions: none. -/
import Derived.Test.YtbmmaibbiahkkaaGreatDoorSxB
namespace Go.Sx
set_option linter.unusedSimpArgs false
section
variable (P : Program) (H : Dq)
def dsts : List Oper → List Nat
 | [] => []
 | o :: r => match o.dst with | some d => d :: dsts r | none => dsts r
def writes : Code → List Nat
 | .region _ ops _ => dsts ops.toList
 | .seq a b => writes a ++ writes b
 | .cond _ a b => writes a ++ writes b
 | .block _ b => writes b
 | .loop b => writes b
 | .scope b => writes b
 | _ => []
def A7 : Code → Option Nat
 | .region id _ _ => some id
 | .seq a b => match A7 a with | some i => some i | none => A7 b
 | .cond _ a b => match A7 a with | some i => some i | none => A7 b
 | .block _ b => A7 b
 | .loop b => A7 b
 | .scope b => A7 b
 | _ => none
def As (o : Oper) : Bool :=
 match o.op with
 | .move _ | .assign _ | .pick _ _ _ | .load _ _ | .nilCheck _ | .fieldAddr _ _ _ | .indexAddr _ _ _ | .slice _ _ _ _ _ | .unOp .not _ _ => true
 | .index _ _ _ | .unOp _ _ _ | .convert _ _ _ | .build _ _ | .field _ _ _ | .extract _ _ | .makeInterface _ _ | .makeFunc _ _ _ => !Cg H o
 | .binOp .quo _ _ _ _ | .binOp .rem _ _ _ _ => false
 | .binOp _ _ _ _ _ => !Cg H o
 | .call { callee := .builtin _, .. } => !Cg H o
 | _ => false
def Em : List Oper → Bool
 | [] => true
 | o :: r => cond (As H o) (Em r) false
def Bb (w w' : World) : List Addr → Prop
 | [] => True
 | a :: r => w'.heap[a.block]? = w.heap[a.block]? ∧ Bb w w' r
def waitsFor (ops : Array Oper) (j i : Nat) : Bool :=
 match ops[j]? with
 | some o => o.after.any fun e => Region.binds .any e && e.on == i
 | none => false
def Ao (bars : List Nat) : Ord → Option Nat
 | .nil => none
 | .cons i r => cond (Be bars i) (some i) (Ao bars r)
 | .alt a _ => Ao bars a
def Ord.heads : Ord → List Nat
 | .nil => []
 | .cons i _ => [i]
 | .alt a b => a.heads ++ b.heads
def Ord.len : Ord → Nat
 | .nil => 0
 | .cons _ r => r.len + 1
 | .alt a b => max a.len b.len
def Mj : Option Nat → Option Nat → Bool
 | none, none => true
 | some a, some b => Nat.beq a b
 | _, _ => false
def Hr (P : Program) (o : Oper) : Bool := match o.op with | .load t _ => (match sizeOf P t with | some (_ + 1) => true | _ => false) | _ => true
def Fc (env : List (Nat × EV)) (o : Oper) : List Nat :=
 match o.op with
 | .load _ x => match ope env x with
  | some (.loc id _) => [id]
  | _ => []
 | _ => []
def Hs (i : Nat) : Nat → List Oper → List Nat → List Nat
 | _, [], acc => acc
 | c, o :: r, acc => Hs i (c + 1) r (cond (o.after.any fun e => Region.binds .any e && (Nat.beq e.on i || Be acc e.on)) (c :: acc) acc)
def Jx (L : Array Bool) : List Nat → Bool
 | [] => true
 | c :: r => cond (L.getD c true) false (Jx L r)
def Ht (ops : Array Oper) (L : Array Bool) (j : Option Nat) (i : Nat) : Bool := match j with
 | some j => cond (waitsFor ops j i && !L.getD j true) true (Be (Hs i 0 ops.toList []) j && Jx L (Hs i 0 ops.toList []))
 | none => true
def Lm (o : Oper) : Bool := match o.op with | .load _ _ => true | _ => false
def Ln (ops : Array Oper) (i : Nat) : Bool := match ops[i]? with | some o => !Lm o | none => false
def Lo : Option Nat → Nat → Bool
 | some j, i => !Nat.beq j i
 | none, _ => true
def En (ops : Array Oper) (bars : List Nat) (rest : Ord) (L : Array Bool) (i : Nat) : Bool :=
 cond (Ln ops i && Lo (Ao bars rest) i) true (Ht ops L (Ao bars rest) i) && Region.free .any ops L i && (Region.ready .any ops L).contains i && !Be bars i
def Mk (o : Oper) : Bool := match o.op with | .store _ _ _ => true | _ => false
def Eo : List Nat → List Nat → Bool
 | [], [] => true
 | a :: r, b :: s => cond (Nat.beq a b) (Eo r s) false
 | _, _ => false
def Ch (env : List (Nat × EV)) (o : Oper) : List Addr :=
 match o.op with
 | .load _ x => match ope env x with
  | some (.val (.pointer (some ad))) => [ad]
  | _ => []
 | _ => []
def A3 (n : Nat) (ops : Array Oper) (bars : List Nat) (K : Exit → DS → World → Prop) : Ord → Bool → Array Bool → List Addr → List Nat → List (Nat × LB) → DS → World → Prop
  | .nil, _, L, _, _, _, s, w => Aj (Eo (Region.ready .any ops L) []) (K .normal s w)
  | .alt a b, chk, L, T, TL, F, s, w => Aj (Mj (Ao bars a) (Ao bars b)) (Aj (!chk || Eo (Region.ready .any ops L) (Ord.heads (.alt a b)))
      (A3 n ops bars K a false L T TL F s w ∧ A3 n ops bars K b false L T TL F s w))
  | .cons i rest, chk, L, T, TL, F, s, w =>
    match ops[i]? with
    | none => False
    | some o =>
      let L' := L.setIfInBounds i true
      let quiet (s : DS) : Prop := Al P H F o s (fun e s' w' => putE n s' o.dst e fun s'' => A3 n ops bars K rest true L' (Ch s.env o ++ T) (Fc s.env o ++ TL) F s'' w') (fun _ _ => False) w
      let loud (s : DS) : Prop := cond (Be bars i)
        (Al P H F o s (fun e s' w' => putE n s' o.dst e fun s'' => A3 n ops bars K rest true L' [] [] F s'' w') (fun c w' => K (.panic c) { s with env := drop (dsts ops.toList) s.env } w') w)
        (Al P H (pick TL s.loc ++ F) o { s with loc := drop TL s.loc } (fun e s' w' => Bb w w' T ∧ putE n { s' with loc := s'.loc ++ pick TL s.loc } o.dst e fun s'' => A3 n ops bars K rest true L' T TL F s'' w') (fun c w' => K (.panic c) { s with env := drop (dsts ops.toList) s.env, loc := drop TL s.loc ++ pick TL s.loc } w') w)
      let run (s : DS) : Prop := cond (As H o) (Aj (chk && Hr P o && En ops bars rest L i) (quiet s)) (Aj (!chk || Eo (Region.ready .any ops L) [i]) (loud s))
      let skip (s : DS) : Prop := Aj (cond chk (En ops bars rest L i) (!Be bars i)) (putE n s o.dst (.val undef) fun s' => A3 n ops bars K rest true L' T TL F s' w)
      match o.guard with
      | none => run s
      | some (j, want) => match G3 ops.toList j with
        | none => False
        | some t => match get s.env t with
          | some (.lit true) => cond want (run s) (skip s)
          | some (.lit false) => cond want (skip s) (run s)
          | some (.val (.bool b)) => Aj (Nat.blt t n)
            ((b = true → let s' : DS := { s with env := (t, .lit true) :: s.env }; cond want (run s') (skip s')) ∧
             (b = false → let s' : DS := { s with env := (t, .lit false) :: s.env }; cond want (skip s') (run s')))
          | some (.val (.tuple _)) => skip s
          | _ => False
def Da : Code → Nat
 | .seq a b => Da a + Da b
 | .cond _ a b => Da a + Da b
 | .block _ b => Da b
 | .loop b => Da b + 1
 | .scope b => Da b
 | _ => 0
def Nw (l : List (Nat × Ay)) (b : Code) : Option Ay := match A7 b with | some i => get l (i + 1000 * Da b) | none => none
def hintOf (l : List (Nat × Ay)) (b : Code) : Option Ay := match A7 b with | some i => get l i | none => none
def Bp (s : DS) (F : List (Nat × LB)) (w : World) : List ResultVar → (List Value → Prop) → Prop
 | [], k => k []
 | .tmp t :: r, k => match get s.env t with
  | some e => match e.toV with
   | some v => Bp s F w r fun vs => k (v :: vs)
   | none => False
  | none => False
 | .cell a t :: r, k => addrOf s.env (.tmp a)
  (fun id off => match getL s F id, aggB P t with
   | some lb, some false => match nthL lb.cells off with | some v => Bp s F w r fun vs => k (v :: vs) | none => False
   | some lb, some true => match sizeOf P t with
    | some n => Aj (Nat.ble (off + n) lb.cells.length) (Bp s F w r fun vs => k (.agg (F8 n (El off lb.cells)).toArray :: vs))
    | none => False
   | _, _ => False)
  (fun ad => match aggB P t, zeroOf P t, sizeOf P t with
   | some false, some z, _ => exV (SV.of z) fun v => w.cell? ad = some v ∧ Bp s F w r fun vs => k (v :: vs)
   | some true, some (.agg cs), some n => Aj (Nat.beq cs.toList.length n) (ex1L (S1.ofL cs.toList) fun us => Ah w ad 0 us ∧ Bp s F w r fun vs => k (.agg us.toArray :: vs))
   | _, _, _ => False)
def Fv : List Value → Value
 | [v] => v
 | vs => .tuple vs.toArray
def Dr (s : DS) : List (Nat × S1) → Option (List Value)
 | [] => some []
 | (t, _) :: r => match get s.env t with
  | some e => match e.toV with
   | some v => match Dr s r with
    | some vs => some (v :: vs)
    | none => none
   | none => none
  | none => none
def C1 (s : DS) : List (Nat × TypeId × List S1) → Option (List Value)
 | [] => some []
 | (id, ty, sh) :: r => match get s.loc id with
  | some lb => match C1 s r with
   | some vs => match Nat.beq lb.cells.length sh.length && Nat.beq lb.ty ty with
    | true => some (lb.cells ++ vs)
    | false => none
   | none => none
  | none => none
def Ds (s : DS) (h : Ay) : Option (List Value) :=
 match Dr s h.slots with
 | some a => match C1 s h.cells with
  | some b => some (a ++ b)
  | none => none
 | none => none
def Hu : List (Nat × S1) → List S1
 | [] => []
 | (_, s) :: r => s :: Hu r
def Hv : List (Nat × TypeId × List S1) → List S1
 | [] => []
 | (_, _, s) :: r => s ++ Hv r
def Az (h : Ay) : List S1 := Hu h.slots ++ Hv h.cells
def B5 : List (Nat × S1) → List Value → List (Nat × EV) → List (Nat × EV)
 | (t, _) :: r, v :: vs, l => (t, .val v) :: B5 r vs l
 | _, _, l => l
def Bh : List (Nat × TypeId × List S1) → List Value → List (Nat × LB)
 | (id, ty, sh) :: r, vs => (id, ⟨ty, F8 sh.length vs⟩) :: Bh r (El sh.length vs)
 | [], _ => []
def keys {α : Type} : List (Nat × α) → List Nat
 | [] => []
 | (i, _) :: r => i :: keys r
def By (s : DS) (h : Ay) (ws : List Nat) (vs : List Value) : DS :=
 { env := B5 h.slots vs (drop ws s.env), loc := Bh h.cells (El h.slots.length vs), defs := s.defs }
def Ai (s : DS) (h : Ay) : List (Nat × LB) := drop (keys h.cells) s.loc
def Ml (h : Ay) (ws : List Nat) (F : List (Nat × LB)) (body : List (Nat × LB) → (Exit → DS → World → Prop) → DS → World → Prop) (K : Exit → DS → World → Prop) (s : DS) (w : World) : Prop :=
 match Ds s h with
 | none => False
 | some vs₀ => Aj (is1L (Az h) vs₀) (
  ∃ (I : FunT (World → Prop) (Az h)) (μ : FunT (World → Nat) (Az h)), apV (fun _ => False) (Az h) I vs₀ w ∧
   Mf (Az h) fun vs => ∀ w : World, apV (fun _ => False) (Az h) I vs w →
    body (Ai s h ++ F) (fun e s' w' => match e with
     | .normal => match Ds s' h with
      | some vs' => Aj (is1L (Az h) vs' && Nat.beq s'.defs.length s.defs.length) (apV (fun _ => False) (Az h) I vs' w' ∧ apV (fun _ => 0) (Az h) μ vs' w' < apV (fun _ => 0) (Az h) μ vs w)
      | none => False
     | e => K e { s' with loc := s'.loc ++ Ai s h } w') (By s h ws vs) w)
def P8 (h : Ay) (ws : List Nat) (F : List (Nat × LB)) (a b : List (Nat × LB) → (Exit → DS → World → Prop) → DS → World → Prop) (K : Exit → DS → World → Prop) (s : DS) (w : World) : Prop :=
 ∃ J : FunT (World → Prop) (Az h),
  a (Ai s h ++ F) (fun e s' w' => match e with
   | .normal => match Ds s' h with
    | some vs => Aj (is1L (Az h) vs && Nat.beq s'.defs.length s.defs.length) (apV (fun _ => False) (Az h) J vs w')
    | none => False
   | e => K e { s' with loc := s'.loc ++ Ai s h } w') { s with loc := pick (keys h.cells) s.loc } w ∧
  Mf (Az h) fun vs => ∀ w : World, apV (fun _ => False) (Az h) J vs w → b F K { env := (By s h ws vs).env, loc := (By s h ws vs).loc ++ Ai s h, defs := s.defs } w
def den (n : Nat) : Code → List (Nat × LB) → (Exit → DS → World → Prop) → DS → World → Prop
  | .skip, _, K, s, w => K .normal s w
  | .label _, _, K, s, w => K .normal s w
  | .exit id, _, K, s, w => K (.exit id) s w
  | .ret, _, K, s, w => K .ret s w
  | .region _ ops false, F, K, s, w => Cb P H n F ops.toList K ops.toList s w
  | .region id ops true, F, K, s, w => match get H.draws id with
   | some h => Aj (Region.noSelect ops && Nat.ble h.order.len ops.size) (∀ w', Grew w w' → A3 P H n ops h.bars K h.order true (Array.replicate ops.size false) [] [] F s w')
   | none => Aj (Em H ops.toList && Region.lexB .any ops) (Cb P H n F ops.toList (fun e s' w' => match e with | .normal => ∀ w'', Grew w' w'' → K .normal s' w'' | _ => False) ops.toList s w)
  | .seq a b, F, K, s, w => match hintOf H.cuts b with
   | some h => P8 h (writes a) F (den n a) (den n b) K s w
   | none => den n a F (fun e s' w' => match e with | .normal => den n b F K s' w' | e => K e s' w') s w
  | .cond c a b, F, K, s, w => match ope s.env c with
    | some (.lit true) => den n a F K s w
    | some (.lit false) => den n b F K s w
    | some (.val (.bool t)) => (t = true → den n a F K s w) ∧ (t = false → den n b F K s w)
    | _ => False
  | .block id b, F, K, s, w => den n b F (fun e s' w' => match e with | .exit i => cond (Nat.beq i id) (K .normal s' w') (K (.exit i) s' w') | e => K e s' w') s w
  | .loop b, F, K, s, w => match Nw H.loops b with
    | none => False
    | some h => Ml h (writes b) F (den n b) K s w
  | _, _, _, _, _ => False
def Bt : Option (List PanicEntry) → FrameMode
 | none => .returning
 | some c => .panicking c
structure D6 (P : Program) (d : Deferred) (u : Option (List PanicEntry)) (w : World) (k : Option (List PanicEntry) → World → Prop) : Prop where
 out : ∃ g cap dargs, d = ⟨.fn (.func g) cap, dargs⟩ ∧ Enters P g ∧ ∀ w₀, Ae w w₀ → CallsD P g (dargs ++ cap) (Bt u) w₀ fun e u' w₀' => match e with
  | .returned _ => ∃ u'' w', settle u' = Bt u'' ∧ Ae w' w₀' ∧ Kept w w₀ w' w₀' ∧ k u'' w'
  | _ => False
def P9 (u : Option (List PanicEntry)) (A : Prop) (B : List PanicEntry → Prop) : Prop :=
 match u with
 | none => A
 | some c => B c
def Ep (fn : Func) (R : Ending → World → Prop) (s : DS) : List Deferred → Option (List PanicEntry) → World → Prop
 | [], u, w => P9 u (Bp P s [] w fn.results.toList fun vs => R (.returned (Fv vs)) w) (fun c => R (.panicked c) w)
 | d :: ds, u, w => D6 P d u w fun u' w' => Ep fn R s ds u' w'
def Qm (fn : Func) (R : Ending → World → Prop) : Exit → DS → World → Prop
 | .normal, s, w | .ret, s, w => Ep P fn R s s.defs none w
 | .panic c, s, w => Ep P fn R s s.defs (some c) w
 | _, _, _ => False
def G4 : Nat → List Value → List (Nat × EV)
 | _, [] => []
 | i, v :: r => (i, .val v) :: G4 (i + 1) r
def Nx (fn : Func) (args : List Value) (R : Ending → World → Prop) (w : World) : Prop :=
 match fn.body with
 | some c => den P H fn.ntmps c [] (Qm P fn R) { env := G4 0 args, loc := [] } w
 | none => False
end
end Go.Sx
