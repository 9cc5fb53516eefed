/- What a piece of code is asked for, reckoned from its text: one proposition. Conditions: none. -/
import Derived.Test.YtbmmaibbiahkkaaGreatDoorSxA
namespace Go.Sx
set_option linter.unusedSimpArgs false
def Nr (P : Program) : List PanicEntry := [{ v := .iface P.rt.errorString (strVal "integer divide by zero"), recovered := false }]
def C8 (v : Value) : List PanicEntry := [{ v, recovered := false }]
def eqS (op : BinOp) (t : TypeId) (x y : Operand) (a b : Value) : Sem Value := do eqGuard op t x y a b; binOp op t a b
structure Ay where
 slots : List (Nat × S1)
 cells : List (Nat × TypeId × List S1)
inductive Ord where
 | nil
 | cons (i : Nat) (r : Ord)
 | alt (a b : Ord)
structure Ns where
 order : Ord
 bars : List Nat
structure Dq where
 draws : List (Nat × Ns) := []
 locals : List Nat := []
 known : List Nat := []
 pureTo : List Nat := []
 sem : List Nat := []
 named : List Nat := []
 loops : List (Nat × Ay) := []
 cuts : List (Nat × Ay) := []
section
variable (P : Program) (H : Dq)
def zeroOf (t : TypeId) : Option Value := match P.info? t with | some i => i.zero | none => none
def sizeOf (t : TypeId) : Option Nat := match P.info? t with | some i => some i.size | none => none
def aggB (t : TypeId) : Option Bool := match P.underlying t with | some (.struct _) | some (.array _ _) => some true | some _ => some false | none => none
def shape (t : TypeId) (φ : Value → Prop) : Prop := match zeroOf P t with | some z => exH (SH.of z) φ | none => False
def getL (s : DS) (F : List (Nat × LB)) (id : Nat) : Option LB :=
 match get s.loc id with
 | some b => some b
 | none => get F id
def cellsOf : Value → List Value
 | .agg cs => cs.toList
 | v => [v]
def Aj : Bool → Prop → Prop
 | true, p => p
 | false, _ => False
def Hj : List Value → Bool
 | [] => true
 | v :: r => cond (Gt v) (Hj r) false
def F7 (d : Nat) : List (Nat × EV) → Bool
 | [] => true
 | (_, .loc id _) :: r => cond (Nat.beq id d) false (F7 d r)
 | _ :: r => F7 d r
def I7 (d : Nat) : List (Nat × LB) → Bool
 | [] => true
 | (id, _) :: r => cond (Nat.beq id d) false (I7 d r)
def partsOf (t : TypeId) (v : Value) (k : List Value → Prop) : Prop :=
 match aggB P t with
 | some true => match v with
  | .agg cs => match sizeOf P t with
   | some n => Aj (Nat.beq cs.toList.length n) (Aj (Hj cs.toList) (k cs.toList))
   | none => False
  | _ => False
 | some false => match sizeOf P t with
  | some 1 => Aj (Gt v) (k [v])
  | _ => False
 | none => False
def setL : List Value → Nat → List Value → List Value
 | [], _, _ => []
 | _ :: r, 0, v :: vs => v :: setL r 0 vs
 | c :: r, 0, [] => c :: r
 | c :: r, n + 1, vs => c :: setL r n vs
def F8 : Nat → List Value → List Value
 | 0, _ => []
 | _ + 1, [] => []
 | n + 1, c :: r => c :: F8 n r
def El : Nat → List Value → List Value
 | 0, l => l
 | _ + 1, [] => []
 | n + 1, _ :: r => El n r
def nthL : List Value → Nat → Option Value
 | [], _ => none
 | c :: _, 0 => some c
 | _ :: r, n + 1 => nthL r n
def C0 (env : List (Nat × EV)) : List (Nat × Operand) → Option (List (Nat × Value))
 | [] => some []
 | (i, x) :: r => match opv env x with
  | some v => match C0 env r with
   | some vs => some ((i, v) :: vs)
   | none => none
  | none => none
def Nt (env : List (Nat × EV)) (o : Oper) : Option (Sem Value) :=
 match o.op with
 | .binOp op t x y _ => match opv env x with
  | some a => match opv env y with
   | some b => some (do eqGuard op t x y a b; binOp op t a b)
   | none => none
  | none => none
 | .unOp op _ x => match opv env x with | some a => some (Op.unary op a) | none => none
 | .convert s d x => match opv env x with | some a => some (convert s d a) | none => none
 | .build t ps => match C0 env ps.toList with | some vs => some (Instr.build t vs.toArray) | none => none
 | .field t x f => match opv env x with | some a => some (Instr.field t a f) | none => none
 | .fieldAddr t x f => match opv env x with | some a => some (Instr.fieldAt t a f) | none => none
 | .index t x i => match opv env x with
  | some a => match opv env i with
   | some b => some (Instr.index t a b)
   | none => none
  | none => none
 | .indexAddr t x i => match opv env x with
  | some a => match opv env i with
   | some b => some (Instr.indexAt t a b)
   | none => none
  | none => none
 | .extract x i => match opv env x with | some a => some (Instr.extract a i) | none => none
 | .makeInterface t x => match opv env x with | some a => some (Instr.makeInterface t a) | none => none
 | .makeFunc fn fs cs => match opvs env fs.toList with
  | some a => match opvs env cs.toList with
   | some b => some (Instr.makeFunc fn a.toArray b.toArray)
   | none => none
  | none => none
 | .makeMap t none => some (Instr.makeMap t none)
 | .makeSlice t l c => match opv env l with
  | some a => match opv env c with
   | some b => some (Instr.makeSlice t a b)
   | none => none
  | none => none
 | .lookup t x i ok => match opv env x with
  | some a => match opv env i with
   | some b => some (Instr.lookup t a b ok)
   | none => none
  | none => none
 | .range t x => match opv env x with | some a => some (Instr.range t a) | none => none
 | .next x s => match opv env x with | some a => some (Instr.next a s o.type) | none => none
 | .typeAssert x t u ok => match opv env x with | some a => some (Instr.typeAssert a t u ok) | none => none
 | .call { callee := .builtin b, args, argTypes } => match opvs env args.toList with
  | some vs => match b with
   | .append => some (Builtin.append_ argTypes o.type vs.toArray)
   | .len => some (Builtin.len_ argTypes o.type vs.toArray)
   | .cap => some (Builtin.cap_ argTypes o.type vs.toArray)
   | .copy => some (Builtin.copy_ argTypes o.type vs.toArray)
   | .delete => some (Builtin.delete_ argTypes o.type vs.toArray)
   | .clear => some (Builtin.clear_ argTypes o.type vs.toArray)
   | .min => some (Builtin.min_ argTypes o.type vs.toArray)
   | .max => some (Builtin.max_ argTypes o.type vs.toArray)
   | .unsafeSliceData => some (Builtin.unsafeSliceData_ argTypes o.type vs.toArray)
   | .unsafeString => some (Builtin.unsafeString_ argTypes o.type vs.toArray)
   | _ => none
  | none => none
 | _ => none
def Ph (o : Oper) : Bool := match o.dst with | some d => Be H.known d | none => false
def Nu (o : Oper) : Bool := match o.dst with | some d => Be H.pureTo d | none => false
def Cg (o : Oper) : Bool := match o.dst with | some d => Be H.sem d | none => true
def isNamed (o : Oper) : Bool := match o.dst with | some d => Be H.named d | none => false
def Mg (o : Oper) : Bool := match o.dst with | some d => Be H.locals d | none => false
def B4 (o : Oper) (v : Value) (k : EV → Prop) : Prop :=
 match Ph H o with
 | true => match v with
  | .bool true => k (.lit true)
  | .bool false => k (.lit false)
  | _ => False
 | false => match isNamed H o with
  | false => k (.val v)
  | true => match v with
   | .int kd n => ∀ m : Int, m = n → k (.val (.int kd m))
   | _ => False
def Ca (o : Oper) (s : DS) (k : EV → DS → World → Prop) (w : World) : Prop :=
 match Nt s.env o with
 | none => False
 | some m =>
  match Nu H o with
  | true => shape P o.type fun v => Am P m v ∧ B4 H o v (fun e => k e s w)
  | false => match Cg H o with
   | true => SemW P m (fun v w' => shape P o.type fun v' => v = v' ∧ B4 H o v' (fun e => k e s w')) w
   | false => match F6 P m with
    | some v => B4 H o v (fun e => k e s w)
    | none => False
def Nv (o : Oper) (k : Value → World → Prop) (pn : List PanicEntry → World → Prop) (e : Ending) (w : World) : Prop :=
 match e with
 | .returned u => shape P o.type fun v => u = v ∧ k v w
 | .panicked c => pn c w
 | .outgrown => False
def Mh (o : Oper) (c : Call) (s : DS) (k : EV → DS → World → Prop) (pn : List PanicEntry → World → Prop) (w : World) : Prop :=
 match opvs s.env c.args.toList with
 | none => False
 | some vs => match c.callee with
  | .value f => match opv s.env f with
   | some (.func (.func g) first captured) => Aa P g (first.toList ++ (vs ++ captured.toList)) w (Nv P o (fun v w' => k (.val v) s w') pn)
   | _ => False
  | _ => False
def addrOf (env : List (Nat × EV)) (x : Operand) (onLoc : Nat → Nat → Prop) (onPtr : Addr → Prop) : Prop :=
 match ope env x with
 | some (.loc id off) => onLoc id off
 | some (.val (.pointer p)) => Ac p onPtr
 | _ => False
def Hp (t : TypeId) (f : Nat) : Option Nat :=
 match P.underlying t with
 | some (.struct fs) => match fs[f]? with
  | some fd => match sizeOf P fd.type with
   | some (_ + 1) => some fd.offset
   | _ => none
  | none => none
 | _ => none
def C9 (env : List (Nat × EV)) (lo : Option Operand) (base : Option Addr) (h cap sz : Nat) (k : Value → Prop) : Prop :=
 match lo with
 | none => k (.slice base h cap)
 | some x => match opv env x with
  | some (.int _ l) => (0 ≤ l ∧ l ≤ h) ∧ k (.slice (if cap = l.toNat then base else base.map (·.add (l.toNat * sz))) (h - l.toNat) (cap - l.toNat))
  | _ => False
def Mi (env : List (Nat × EV)) (lo : Option Operand) (str : ByteArray) (h : Nat) (k : Value → Prop) : Prop :=
 match lo with
 | none => k (.string (str.extract 0 h))
 | some x => match opv env x with
  | some (.int _ l) => (0 ≤ l ∧ l ≤ h) ∧ k (.string (str.extract l.toNat h))
  | _ => False
def Au (w : World) (b : Nat) (o : Obj) : World := { w with heap := w.heap.setIfInBounds b o }
def Al (F : List (Nat × LB)) (o : Oper) (s : DS) (k : EV → DS → World → Prop) (pn : List PanicEntry → World → Prop) (w : World) : Prop :=
  match o.op with
  | .move x | .assign x => match ope s.env x with | some e => k e s w | none => False
  | .pick c a b => match ope s.env c with
    | some (.lit true) => match ope s.env a with | some e => k e s w | none => False
    | some (.lit false) => match ope s.env b with | some e => k e s w | none => False
    | _ => False
  | .alloc t => match zeroOf P t with
    | none => False
    | some z => match Mg H o, o.dst with
      | true, some d => Aj (F7 d s.env && I7 d F) (∀ w', Grew w w' → k (.loc d 0) { s with loc := (d, ⟨t, cellsOf z⟩) :: s.loc } w')
      | _, _ => ∀ (b : Nat) (w' : World), Ar w w' b (.cells (cellsOf z).toArray t) → k (.val (.pointer (some ⟨b, 0, none⟩))) s w'
  | .box t x => match opv s.env x with
    | none => False
    | some v => partsOf P t v fun cs => match Mg H o, o.dst with
      | true, some d => Aj (F7 d s.env && I7 d F) (∀ w', Grew w w' → k (.loc d 0) { s with loc := (d, ⟨t, cs⟩) :: s.loc } w')
      | _, _ => ∀ (b : Nat) (w' : World), Ar w w' b (.cells cs.toArray t) → k (.val (.pointer (some ⟨b, 0, none⟩))) s w'
  | .load t a => addrOf s.env a
    (fun id off => match getL s F id, aggB P t with
      | some lb, some false => match nthL lb.cells off with | some v => k (.val v) s w | none => False
      | some lb, some true => match sizeOf P t with
        | some n => Aj (Nat.ble (off + n) lb.cells.length) (k (.val (.agg (F8 n (El off lb.cells)).toArray)) s w)
        | none => False
      | _, _ => False)
    (fun ad => match aggB P t, zeroOf P t, sizeOf P t with
      | some false, some z, _ => exV (SV.of z) fun v => w.cell? ad = some v ∧ k (.val v) s w
      | some true, some (.agg cs), some n => Aj (Nat.beq cs.toList.length n) (ex1L (S1.ofL cs.toList) fun vs => Ah w ad 0 vs ∧ k (.val (.agg vs.toArray)) s w)
      | _, _, _ => False)
  | .store t a x => match opv s.env x with
    | none => False
    | some v => partsOf P t v fun cs => addrOf s.env a
      (fun id off => match get s.loc id with
        | some lb => Aj (Nat.ble (off + cs.length) lb.cells.length) (k (.val undef) { s with loc := (id, ⟨lb.ty, setL lb.cells off cs⟩) :: s.loc } w)
        | none => False)
      (fun ad => An w ad 0 cs ∧ ∀ w', w' = setCells w ad 0 cs → k (.val undef) s w')
  | .nilCheck x => addrOf s.env x (fun id off => k (.loc id off) s w) (fun ad => k (.val (.pointer (some ad))) s w)
  | .fieldAddr t x f => match Hp P t f with
    | some n => addrOf s.env x (fun id off => k (.loc id (off + n)) s w) (fun ad => k (.val (.pointer (some (ad.add n)))) s w)
    | none => False
  | .indexAddr t x i => match opv s.env i, P.underlying t with
    | some (.int _ n), some (.slice e) => match opv s.env x, sizeOf P e with
      | some (.slice base len _), some sz => Ac base fun b => (0 ≤ n ∧ n < len) ∧ k (.val (.pointer (some (b.add (n.toNat * sz))))) s w
      | _, _ => False
    | some (.int _ n), some (.array len e) => match sizeOf P e with
      | some sz => addrOf s.env x (fun id off => (0 ≤ n ∧ n < len) ∧ k (.loc id (off + n.toNat * sz)) s w) (fun b => (0 ≤ n ∧ n < len) ∧ k (.val (.pointer (some (b.add (n.toNat * sz))))) s w)
      | _ => False
    | _, _ => False
  | .index t x i => match Cg H o with
   | true => Ca P H o s k w
   | false => match opv s.env x, opv s.env i, P.underlying t with
    | some (.string str), some (.int _ n), some .string => ∃ b : UInt8, (0 ≤ n ∧ str.data[n.toNat]? = some b) ∧ k (.val (.int .u8 b.toNat)) s w
    | _, _, _ => Ca P H o s k w
  | .slice t x lo hi none => match P.underlying t, opv s.env x with
    | some (.slice e), some (.slice base len cap) => match sizeOf P e with
      | none => False
      | some sz => match hi with
        | none => C9 s.env lo base len cap sz (fun v => k (.val v) s w)
        | some x => match opv s.env x with
          | some (.int _ h) => (0 ≤ h ∧ h ≤ cap) ∧ C9 s.env lo base h.toNat cap sz (fun v => k (.val v) s w)
          | _ => False
    | some (.array n e), some (.pointer p) => match sizeOf P e with
      | none => False
      | some sz => Ac p fun b => match hi with
        | none => C9 s.env lo (some b) n n sz (fun v => k (.val v) s w)
        | some x => match opv s.env x with
          | some (.int _ h) => (0 ≤ h ∧ h ≤ n) ∧ C9 s.env lo (some b) h.toNat n sz (fun v => k (.val v) s w)
          | _ => False
    | some .string, some (.string str) =>
      match hi with
        | none => Mi s.env lo str str.size (fun v => k (.val v) s w)
        | some x => match opv s.env x with
          | some (.int _ h) => (0 ≤ h ∧ h ≤ str.size) ∧ Mi s.env lo str h.toNat (fun v => k (.val v) s w)
          | _ => False
    | _, _ => False
  | .binOp op t x y _ => match Cg H o with
   | true => Ca P H o s k w
   | false => match op, opv s.env x, opv s.env y with
    | .quo, some (.int kd a), some (.int kd' b) => Aj (kd == kd') ((b = 0 → pn [{ v := .iface P.rt.errorString (strVal "integer divide by zero"), recovered := false }] w) ∧ (b ≠ 0 → B4 H o (.int kd (kd.wrap (a.tdiv b))) (fun e => k e s w)))
    | .rem, some (.int kd a), some (.int kd' b) => Aj (kd == kd') ((b = 0 → pn [{ v := .iface P.rt.errorString (strVal "integer divide by zero"), recovered := false }] w) ∧ (b ≠ 0 → B4 H o (.int kd (a.tmod b)) (fun e => k e s w)))
    | .shl, some (.int kd a), some (.int _ b) => 0 ≤ b ∧ B4 H o (.int kd (kd.wrap (a * 2 ^ (min b.toNat kd.bits)))) (fun e => k e s w)
    | .shr, some (.int kd a), some (.int _ b) => 0 ≤ b ∧ B4 H o (.int kd (a.fdiv (2 ^ (min b.toNat kd.bits)))) (fun e => k e s w)
    | .eql, some (.pointer p), some (.pointer none) => Aj (match P.underlying t with | some (.pointer _) => true | _ => false) (B4 H o (.bool p.isNone) (fun e => k e s w))
    | .neq, some (.pointer p), some (.pointer none) => Aj (match P.underlying t with | some (.pointer _) => true | _ => false) (B4 H o (.bool (!p.isNone)) (fun e => k e s w))
    | .eql, some (.slice p _ _), some (.slice none _ _) => Aj (match P.underlying t with | some (.slice _) => true | _ => false) (B4 H o (.bool p.isNone) (fun e => k e s w))
    | .neq, some (.slice p _ _), some (.slice none _ _) => Aj (match P.underlying t with | some (.slice _) => true | _ => false) (B4 H o (.bool (!p.isNone)) (fun e => k e s w))
    | _, _, _ => Ca P H o s k w
  | .unOp .not _ x => match ope s.env x with
    | some (.lit true) => k (.lit false) s w
    | some (.lit false) => k (.lit true) s w
    | some (.val (.bool b)) => k (.val (.bool (!b))) s w
    | _ => False
  | .buildSlice t len ps => match P.underlying t with
    | some (.slice e) => match sizeOf P e, zeroOf P e, C0 s.env ps.toList with
      | some sz, some z, some vs => match Instr.fill (fun i => some (i * sz, sz)) ((Array.range (len * sz)).map (fun i => z.cells[i % z.cells.size]!)) vs with
        | some cs => Aj (Nat.ble (len * sz) 4096) (∀ (b : Nat) (w' : World), Ar w w' b (.cells cs e) → k (.val (.slice (some ⟨b, 0, none⟩) len len)) s w')
        | none => False
      | _, _, _ => False
    | _ => False
  | .mapUpdate t m x y | .insert t m x y => match opv s.env m, opv s.env x, opv s.env y with
    | some a, some b, some c => SemW P (Instr.mapUpdate t a b c) (fun _ w' => k (.val undef) s w') w
    | _, _, _ => False
  | .panic x => match opv s.env x with
    | some (.iface t v) => pn [{ v := .iface t v, recovered := false }] w
    | _ => False
  | .call c => match c.callee with
    | .builtin _ => Ca P H o s k w
    | _ => Mh P o c s k pn w
  | .range t x => match P.underlying t, opv s.env x with
    | some .string, some (.string str) => ∀ (b : Nat) (w' : World), Ar w w' b (.stringIter str 0) → k (.val (.pointer (some ⟨b, 0, none⟩))) s w'
    | _, _ => Ca P H o s k w
  | .next x true => match opv s.env x with
    | some (.pointer (some ⟨b, 0, _⟩)) => ∃ (str : ByteArray) (pos : Nat), w.heap[b]? = some (.stringIter str pos) ∧
        ((pos < str.size → ∀ w' : World, w' = Au w b (.stringIter str (pos + (Utf8.decode str pos).2)) → k (.val (.tuple #[.bool true, .int .i64 (pos : Int), .int .i32 ((Utf8.decode str pos).1 : Int)])) s w') ∧
         (¬ pos < str.size → k (.val (.tuple #[.bool false])) s w))
    | _ => False
  | .unOp _ _ _ | .convert _ _ _ | .build _ _ | .field _ _ _ | .extract _ _ | .makeInterface _ _ | .makeFunc _ _ _ | .makeMap _ _ | .makeSlice _ _ _ | .lookup _ _ _ _ | .next _ false | .typeAssert _ _ _ _ => Ca P H o s k w
  | _ => False
def putE (n : Nat) (s : DS) (dst : Option Nat) (e : EV) (k : DS → Prop) : Prop :=
 match dst with
 | none => k s
 | some d => Aj (Nat.blt d n) (k { s with env := (d, e) :: s.env })
def G3 (ops : List Oper) (j : Nat) : Option Nat := match ops, j with
 | [], _ => none
 | o :: _, 0 => o.dst
 | _ :: r, j + 1 => G3 r j
def Kj (c : Call) (s : DS) (k : DS → Prop) : Prop :=
 match c.callee with
 | .value f => match opvs s.env c.args.toList with
  | some vs => match opv s.env f with
   | some (.func (.func g) first captured) => k { s with defs := ⟨.fn (.func g) captured, (first.toList ++ vs).toArray⟩ :: s.defs }
   | _ => False
  | none => False
 | _ => False
def Hq (n : Nat) (F : List (Nat × LB)) (o : Oper) (s : DS) (k : DS → World → Prop) (pn : List PanicEntry → World → Prop) (w : World) : Prop :=
 match o.op with
 | .defer c => Kj c s fun s' => putE n s' o.dst (.val undef) fun s'' => k s'' w
 | _ => Al P H F o s (fun e s' w' => putE n s' o.dst e fun s'' => k s'' w') pn w
def Cb (n : Nat) (F : List (Nat × LB)) (all : List Oper) (K : Exit → DS → World → Prop) : List Oper → DS → World → Prop
  | [], s, w => K .normal s w
  | o :: rest, s, w =>
    let run (s : DS) : Prop := Hq P H n F o s (fun s'' w' => Cb n F all K rest s'' w') (fun c w' => K (.panic c) s w') w
    let skip (s : DS) : Prop := putE n s o.dst (.val undef) fun s' => Cb n F all K rest s' w
    match o.guard with
    | none => run s
    | some (j, want) => match G3 all j with
      | none => False
      | some t => match get s.env t with
        | some (.lit true) => cond want (run s) (skip s)
        | some (.lit false) => cond want (skip s) (run s)
        | some (.val (.bool b)) => Aj (Nat.blt t n)
          ((b = true → let s' : DS := { s with env := (t, .lit true) :: s.env }; cond want (run s') (skip s')) ∧
           (b = false → let s' : DS := { s with env := (t, .lit false) :: s.env }; cond want (skip s') (run s')))
        | some (.val (.tuple _)) => skip s
        | _ => False
end
end Go.Sx
