/- The small machine behind the walks: a region's operations read as one proposition, local variables kept outside the world. Conditions: none. -/
import Derived.WalkKit
import Derived.KernelRfl
import Derived.Recover
import Derived.Deep.QuietTactic
namespace Go.Sx
set_option linter.unusedSimpArgs false
inductive EV where
 | val (v : Value)
 | lit (b : Bool)
 | loc (id off : Nat)
structure LB where
 ty : TypeId
 cells : List Value
structure DS where
 env : List (Nat × EV)
 loc : List (Nat × LB)
 defs : List Deferred := []
def get {α : Type} : List (Nat × α) → Nat → Option α
 | [], _ => none
 | (j, v) :: r, t => cond (Nat.beq j t) (some v) (get r t)
def C4 : List Nat → Nat → Bool
 | [], _ => false
 | j :: r, t => cond (Nat.beq j t) true (C4 r t)
def drop {α : Type} (l : List Nat) : List (Nat × α) → List (Nat × α)
 | [] => []
 | (j, v) :: r => cond (C4 l j) (drop l r) ((j, v) :: drop l r)
def pick {α : Type} (l : List Nat) : List (Nat × α) → List (Nat × α)
 | [] => []
 | (j, v) :: r => cond (C4 l j) ((j, v) :: pick l r) (pick l r)
def EV.toV : EV → Option Value
 | .val v => some v
 | .lit b => some (.bool b)
 | .loc _ _ => none
def ope (env : List (Nat × EV)) : Operand → Option EV
 | .tmp t => get env t
 | .const (.bool b) => some (.lit b)
 | .const v => some (.val v)
 | .global g => some (.val (.pointer (some ⟨g, 0, none⟩)))
 | .func f => some (.val (.func (.func f) #[] #[]))
def opv (env : List (Nat × EV)) (x : Operand) : Option Value :=
 match ope env x with
 | some e => e.toV
 | none => none
def opvs (env : List (Nat × EV)) : List Operand → Option (List Value)
 | [] => some []
 | x :: r => match opv env x with
  | some v => match opvs env r with
   | some vs => some (v :: vs)
   | none => none
  | none => none
inductive S1 where
 | bool | int (k : IntKind) | float (k : FloatKind) | string | ptr | slice | map | any
inductive SV where
 | one (s : S1)
 | agg (l : List S1)
inductive SH where
 | one (s : SV)
 | tup (l : List SV)
def S1.of : Value → S1
 | .bool _ => .bool | .int k _ => .int k | .float k _ => .float k | .string _ => .string | .pointer _ => .ptr | .slice _ _ _ => .slice | .map _ => .map | _ => .any
def S1.ofL : List Value → List S1
 | [] => []
 | v :: r => S1.of v :: S1.ofL r
def SV.of : Value → SV
 | .agg cs => .agg (S1.ofL cs.toList)
 | v => .one (S1.of v)
def SV.ofL : List Value → List SV
 | [] => []
 | v :: r => SV.of v :: SV.ofL r
def SH.of : Value → SH
 | .tuple vs => .tup (SV.ofL vs.toList)
 | v => .one (SV.of v)
def ex1 : S1 → (Value → Prop) → Prop
 | .bool, φ => ∃ b : Bool, φ (.bool b)
 | .int k, φ => ∃ n : Int, φ (.int k n)
 | .float k, φ => ∃ n : Nat, φ (.float k n)
 | .string, φ => ∃ s : ByteArray, φ (.string s)
 | .ptr, φ => ∃ a : Option Addr, φ (.pointer a)
 | .slice, φ => ∃ (a : Option Addr) (n c : Nat), φ (.slice a n c)
 | .map, φ => ∃ r : Option Nat, φ (.map r)
 | .any, φ => ∃ v : Value, φ v
def ex1L : List S1 → (List Value → Prop) → Prop
 | [], φ => φ []
 | s :: r, φ => ex1 s fun v => ex1L r fun vs => φ (v :: vs)
def exV : SV → (Value → Prop) → Prop
 | .one s, φ => ex1 s φ
 | .agg l, φ => ex1L l fun vs => φ (.agg vs.toArray)
def exVL : List SV → (List Value → Prop) → Prop
 | [], φ => φ []
 | s :: r, φ => exV s fun v => exVL r fun vs => φ (v :: vs)
def exH : SH → (Value → Prop) → Prop
 | .one s, φ => exV s φ
 | .tup l, φ => exVL l fun vs => φ (.tuple vs.toArray)
theorem Nn : ∀ {s : S1} {φ : Value → Prop}, ex1 s φ → ∃ v, φ v
 | .bool, _, ⟨_, h⟩ | .int _, _, ⟨_, h⟩ | .float _, _, ⟨_, h⟩ | .string, _, ⟨_, h⟩ | .ptr, _, ⟨_, h⟩ | .map, _, ⟨_, h⟩ | .any, _, ⟨_, h⟩ => ⟨_, h⟩
 | .slice, _, ⟨_, _, _, h⟩ => ⟨_, h⟩
theorem Ny : ∀ {l : List S1} {φ : List Value → Prop}, ex1L l φ → ∃ vs, φ vs
 | [], _, h => ⟨_, h⟩
 | _ :: _, _, h => by
  obtain ⟨v, h⟩ := Nn h
  obtain ⟨vs, h⟩ := Ny h
  exact ⟨_, h⟩
theorem No : ∀ {s : SV} {φ : Value → Prop}, exV s φ → ∃ v, φ v
 | .one _, _, h => Nn h
 | .agg _, _, h => by obtain ⟨vs, h⟩ := Ny h; exact ⟨_, h⟩
theorem Sr : ∀ {l : List SV} {φ : List Value → Prop}, exVL l φ → ∃ vs, φ vs
 | [], _, h => ⟨_, h⟩
 | _ :: _, _, h => by
  obtain ⟨v, h⟩ := No h
  obtain ⟨vs, h⟩ := Sr h
  exact ⟨_, h⟩
theorem Acz : ∀ {s : SH} {φ : Value → Prop}, exH s φ → ∃ v, φ v
 | .one _, _, h => No h
 | .tup _, _, h => by obtain ⟨vs, h⟩ := Sr h; exact ⟨_, h⟩
def all1 : S1 → (Value → Prop) → Prop
 | .bool, φ => ∀ b : Bool, φ (.bool b)
 | .int k, φ => ∀ n : Int, φ (.int k n)
 | .float k, φ => ∀ n : Nat, φ (.float k n)
 | .string, φ => ∀ s : ByteArray, φ (.string s)
 | .ptr, φ => ∀ a : Option Addr, φ (.pointer a)
 | .slice, φ => ∀ (a : Option Addr) (n c : Nat), φ (.slice a n c)
 | .map, φ => ∀ r : Option Nat, φ (.map r)
 | .any, φ => ∀ v : Value, φ v
def V3 : List S1 → (List Value → Prop) → Prop
 | [], φ => φ []
 | s :: r, φ => all1 s fun v => V3 r fun vs => φ (v :: vs)
def is1 : S1 → Value → Bool
 | .bool, .bool _ => true
 | .int .i8, .int .i8 _ | .int .i16, .int .i16 _ | .int .i32, .int .i32 _ | .int .i64, .int .i64 _ => true
 | .int .u8, .int .u8 _ | .int .u16, .int .u16 _ | .int .u32, .int .u32 _ | .int .u64, .int .u64 _ => true
 | .float .f32, .float .f32 _ | .float .f64, .float .f64 _ => true
 | .string, .string _ | .ptr, .pointer _ | .slice, .slice _ _ _ | .map, .map _ | .any, _ => true
 | _, _ => false
def is1L : List S1 → List Value → Bool
 | [], [] => true
 | s :: r, v :: vs => cond (is1 s v) (is1L r vs) false
 | _, _ => false
theorem Ac0 : ∀ {s : S1} {φ : Value → Prop}, all1 s φ → ∀ v, is1 s v = true → φ v := by
 intro s φ h v hv
 cases s <;> cases v <;> first | exact h _ | exact h _ _ _ | (simp [is1] at hv; done) | skip
 all_goals
  rename_i k k' n
  cases k <;> cases k' <;> first | exact h _ | (simp [is1] at hv; done)
theorem Nz : ∀ {l : List S1} {φ : List Value → Prop}, V3 l φ → ∀ vs, is1L l vs = true → φ vs
 | [], _, h, [], _ => h
 | s :: r, _, h, v :: vs, hv => by
  have h1 : is1 s v = true ∧ is1L r vs = true := by
   simp only [is1L] at hv
   cases hb : is1 s v <;> simp [hb] at hv ⊢ <;> exact hv
  exact Nz (Ac0 h v h1.1) vs h1.2
 | [], _, _, _ :: _, hv => by simp [is1L] at hv
 | _ :: _, _, _, [], hv => by simp [is1L] at hv
def TyF (T : Type) : S1 → Type
 | .bool => Bool → T
 | .int _ => Int → T
 | .float _ => Nat → T
 | .string => ByteArray → T
 | .ptr => Option Addr → T
 | .slice => Option Addr → Nat → Nat → T
 | .map => Option Nat → T
 | .any => Value → T
def FunT (T : Type) : List S1 → Type
 | [] => T
 | s :: r => TyF (FunT T r) s
def ap1 {T : Type} : (s : S1) → TyF T s → Value → T → T
 | .bool, f, .bool b, _ => f b
 | .int _, f, .int _ n, _ => f n
 | .float _, f, .float _ n, _ => f n
 | .string, f, .string s, _ => f s
 | .ptr, f, .pointer a, _ => f a
 | .slice, f, .slice a n c, _ => f a n c
 | .map, f, .map r, _ => f r
 | .any, f, v, _ => f v
 | _, _, _, d => d
def Hr {T : Type} (d : T) : (l : List S1) → FunT T l
 | [] => d
 | .bool :: r => fun _ => Hr d r
 | .int _ :: r => fun _ => Hr d r
 | .float _ :: r => fun _ => Hr d r
 | .string :: r => fun _ => Hr d r
 | .ptr :: r => fun _ => Hr d r
 | .slice :: r => fun _ _ _ => Hr d r
 | .map :: r => fun _ => Hr d r
 | .any :: r => fun _ => Hr d r
def apV {T : Type} (d : T) : (l : List S1) → FunT T l → List Value → T
 | [], f, _ => f
 | s :: r, f, v :: vs => apV d r (ap1 s f v (Hr d r)) vs
 | _ :: _, _, [] => d
def hole : Obj := .coro none
structure A5 (w w₀ : World) : Prop where
 os : w.os = w₀.os
 tape : w.tape = w₀.tape
 drawn : w.drawn = w₀.drawn
 output : w.output = w₀.output
 size : w.heap.size = w₀.heap.size
 block : ∀ b : Nat, w.heap[b]? = w₀.heap[b]? ∨ w.heap[b]? = some hole
theorem A5.refl (w : World) : A5 w w := ⟨rfl, rfl, rfl, rfl, rfl, fun _ => .inl rfl⟩
structure Kept (w w₀ w' w₀' : World) : Prop where
 hid : ∀ b : Nat, w.heap[b]? = some hole → w'.heap[b]? = some hole
 same : ∀ b : Nat, w.heap[b]? = some hole → w₀'.heap[b]? = w₀.heap[b]?
 size : w.heap.size ≤ w'.heap.size
theorem Kept.refl (w w₀ : World) : Kept w w₀ w w₀ := ⟨fun _ h => h, fun _ _ => rfl, Nat.le_refl _⟩
theorem Kept.trans {a a₀ b b₀ c c₀ : World} (h : Kept a a₀ b b₀) (k : Kept b b₀ c c₀) : Kept a a₀ c c₀ :=
 ⟨fun x hx => k.hid x (h.hid x hx), fun x hx => (k.same x (h.hid x hx)).trans (h.same x hx), Nat.le_trans h.size k.size⟩
theorem Jl {w : World} {a : Addr} (h : w.heap[a.block]? = some hole) : w.cell? a = none := by simp [World.cell?, h, hole]
theorem A5.at {w w₀ : World} (h : A5 w w₀) {b : Nat} {o : Obj} (ho : w.heap[b]? = some o) (hn : o ≠ hole) : w₀.heap[b]? = some o := by
 rcases h.block b with e | e
 ·rw [← e]; exact ho
 ·rw [ho] at e; exact absurd (Option.some.inj e) hn
theorem A5.cell {w w₀ : World} (h : A5 w w₀) {a : Addr} {v : Value} (hc : w.cell? a = some v) : w₀.cell? a = some v ∧ w₀.heap[a.block]? = w.heap[a.block]? := by
 rcases h.block a.block with e | e
 ·refine ⟨?_, e.symm⟩
  rw [← hc]; simp only [World.cell?, e]
 ·rw [Jl e] at hc; cases hc
theorem A5.frozen {w w₀ : World} (_ : A5 w w₀) {a : Addr} (he : w₀.heap[a.block]? = w.heap[a.block]?) : w₀.frozen? a = w.frozen? a := by simp only [World.frozen?, he]
theorem A5.alloc {w w₀ : World} (h : A5 w w₀) (o : Obj) : A5 (w.alloc o) (w₀.alloc o) := by
 refine ⟨h.os, h.tape, h.drawn, h.output, by simp [h.size], fun b => ?_⟩
 show (w.heap.push o)[b]? = (w₀.heap.push o)[b]? ∨ (w.heap.push o)[b]? = some hole
 simp only [Array.getElem?_push, h.size]
 split
 ·exact .inl rfl
 ·exact h.block b
theorem A5.allocHole {w w₀ : World} (h : A5 w w₀) (o : Obj) : A5 (w.alloc hole) (w₀.alloc o) := by
 refine ⟨h.os, h.tape, h.drawn, h.output, by simp [h.size], fun b => ?_⟩
 show (w.heap.push hole)[b]? = (w₀.heap.push o)[b]? ∨ (w.heap.push hole)[b]? = some hole
 simp only [Array.getElem?_push, h.size]
 split
 ·exact .inr rfl
 ·exact h.block b
theorem Kept.alloc {w w₀ : World} (h : A5 w w₀) (o o₀ : Obj) : Kept w w₀ (w.alloc o) (w₀.alloc o₀) := by
 have lt : ∀ b : Nat, w.heap[b]? = some hole → b < w.heap.size := fun b hb => by
  rcases Nat.lt_or_ge b w.heap.size with h' | h'
  ·exact h'
  ·rw [Array.getElem?_eq_none h'] at hb; cases hb
 refine ⟨fun b hb => ?_, fun b hb => ?_, by simp⟩
 ·show (w.heap.push o)[b]? = some hole
  rw [Array.getElem?_push, if_neg (by have := lt b hb; omega)]; exact hb
 ·show (w₀.heap.push o₀)[b]? = w₀.heap[b]?
  rw [Array.getElem?_push, if_neg (by have := lt b hb; have := h.size; omega)]
structure Grew (w w' : World) : Prop where
 os : w'.os = w.os
 tape : w'.tape = w.tape
 output : w'.output = w.output
 size : w.heap.size ≤ w'.heap.size
 block : ∀ b : Nat, b < w.heap.size → w'.heap[b]? = w.heap[b]?
theorem Grew.refl (w : World) : Grew w w := ⟨rfl, rfl, rfl, Nat.le_refl _, fun _ _ => rfl⟩
theorem Grew.trans {a b c : World} (h : Grew a b) (k : Grew b c) : Grew a c :=
 ⟨k.os.trans h.os, k.tape.trans h.tape, k.output.trans h.output, Nat.le_trans h.size k.size, fun i hi => (k.block i (Nat.lt_of_lt_of_le hi h.size)).trans (h.block i hi)⟩
structure Ag (w w' : World) (b : Nat) (o : Obj) : Prop where
 grew : Grew w w'
 new : w.heap.size ≤ b
 at_ : w'.heap[b]? = some o
theorem Ag.mk' (w : World) (o : Obj) : Ag w (w.alloc o) w.heap.size o :=
 ⟨⟨rfl, rfl, rfl, by simp, fun b hb => by
  show (w.heap.push o)[b]? = _
  rw [Array.getElem?_push, if_neg (by omega)]⟩, Nat.le_refl _, by
  show (w.heap.push o)[w.heap.size]? = some o
  simp⟩
def SemW {α : Type} (P : Program) (s : Sem α) (k : α → World → Prop) (w : World) : Prop :=
 ∀ w₀, A5 w w₀ → ∃ a w₀' w', s.run P w₀ = .ok a w₀' ∧ A5 w' w₀' ∧ Kept w w₀ w' w₀' ∧ k a w'
def Enters (P : Program) (f : FuncId) : Prop := ∃ fn, P.funcs[f]? = some fn ∧ fn.body.isNone = false ∧ (fn.name == "runtime.NumGoroutine") = false
structure Aa (P : Program) (f : FuncId) (args : List Value) (w : World) (R : Ending → World → Prop) : Prop where
 out : (Enters P f ∧ ∀ w₀, A5 w w₀ → Calls P f args.toArray w₀ fun e w₀' => ∃ w', A5 w' w₀' ∧ Kept w w₀ w' w₀' ∧ R e w') ∨
 SemW P (callFunc f args.toArray) (fun nx w' => ∃ v, nx = .value v ∧ R (.returned v) w') w
theorem Aa.mono {P : Program} {f : FuncId} {args : List Value} {w : World} {R R' : Ending → World → Prop} (h : Aa P f args w R) (hr : ∀ e w', R e w' → R' e w') : Aa P f args w R' :=
 .mk <| h.out.imp (fun h => ⟨h.1, fun w₀ hw => (h.2 w₀ hw).mono fun _ _ ⟨w', h1, h2, h3⟩ => ⟨w', h1, h2, hr _ _ h3⟩⟩)
  fun h w₀ hw => let ⟨a, w₀', w', h1, h2, h3, v, h4, h5⟩ := h w₀ hw; ⟨a, w₀', w', h1, h2, h3, v, h4, hr _ _ h5⟩
def Ao {α : Type} (P : Program) (s : Sem α) (v : α) : Prop := ∀ w, s.run P w = .ok v w
def Kz {α : Type} (P : Program) : Sem α → Option α
 | .pure a => some a
 | .program k => Kz P (k P)
 | .mark _ k => Kz P k
 | _ => none
theorem Ih {α : Type} {P : Program} : ∀ {s : Sem α} {a : α}, Kz P s = some a → ∀ w, s.run P w = .ok a w
 | .pure _, _, h, w => by simp only [Kz, Option.some.injEq] at h; rw [h]; rfl
 | .program k, _, h, w => Ih (s := k P) h w
 | .mark _ k, _, h, w => Ih (s := k) h w
def Ab : Option Addr → (Addr → Prop) → Prop
 | some a, k => k a
 | none, _ => False
theorem Fw : ∀ {p : Option Addr} {k : Addr → Prop}, Ab p k → ∃ a, p = some a ∧ k a
 | some a, _, h => ⟨a, rfl, h⟩
def Lw : Value → Bool
 | .agg _ | .tuple _ => false
 | _ => true
def Ae (w : World) (a : Addr) (i : Nat) : List Value → Prop
 | [] => True
 | v :: r => w.cell? (a.add i) = some v ∧ Ae w a (i + 1) r
def Af (w : World) (a : Addr) (i : Nat) : List Value → Prop
 | [] => True
 | _ :: r => (w.cell? (a.add i) ≠ none ∧ w.frozen? (a.add i) = false) ∧ Af w a (i + 1) r
def setCells (w : World) (a : Addr) (i : Nat) : List Value → World
 | [] => w
 | v :: r => setCells (w.setCell (a.add i) v) a (i + 1) r
def Bq (P : Program) : List PanicEntry := [{ v := .iface P.rt.errorString (strVal "integer divide by zero"), recovered := false }]
def K0 (v : Value) : List PanicEntry := [{ v, recovered := false }]
def eqS (op : BinOp) (t : TypeId) (x y : Operand) (a b : Value) : Sem Value := do eqGuard op t x y a b; binOp op t a b
structure Bz where
 slots : List (Nat × S1)
 cells : List (Nat × TypeId × List S1)
inductive Ord where
 | nil
 | cons (i : Nat) (r : Ord)
 | alt (a b : Ord)
structure Zq where
 order : Ord
 bars : List Nat
structure Ha where
 draws : List (Nat × Zq) := []
 locals : List Nat := []
 known : List Nat := []
 pureTo : List Nat := []
 sem : List Nat := []
 named : List Nat := []
 loops : List (Nat × Bz) := []
 cuts : List (Nat × Bz) := []
section
variable (P : Program) (H : Ha)
def zeroOf (t : TypeId) : Option Value := match P.info? t with | some i => i.zero | none => none
def sizeOf (t : TypeId) : Option Nat := match P.info? t with | some i => some i.size | none => none
def aggB (t : TypeId) : Option Bool := match P.underlying t with | some (.struct _) | some (.array _ _) => some true | some _ => some false | none => none
def shape (t : TypeId) (φ : Value → Prop) : Prop := match zeroOf P t with | some z => exH (SH.of z) φ | none => False
def getL (s : DS) (F : List (Nat × LB)) (id : Nat) : Option LB :=
 match get s.loc id with
 | some b => some b
 | none => get F id
def cellsOf : Value → List Value
 | .agg cs => cs.toList
 | v => [v]
def Ay : Bool → Prop → Prop
 | true, p => p
 | false, _ => False
def Np : List Value → Bool
 | [] => true
 | v :: r => cond (Lw v) (Np r) false
def K1 (d : Nat) : List (Nat × EV) → Bool
 | [] => true
 | (_, .loc id _) :: r => cond (Nat.beq id d) false (K1 d r)
 | _ :: r => K1 d r
def Qi (d : Nat) : List (Nat × LB) → Bool
 | [] => true
 | (id, _) :: r => cond (Nat.beq id d) false (Qi d r)
def partsOf (t : TypeId) (v : Value) (k : List Value → Prop) : Prop :=
 match aggB P t with
 | some true => match v with
  | .agg cs => match sizeOf P t with
   | some n => Ay (Nat.beq cs.toList.length n) (Ay (Np cs.toList) (k cs.toList))
   | none => False
  | _ => False
 | some false => match sizeOf P t with
  | some 1 => Ay (Lw v) (k [v])
  | _ => False
 | none => False
def setL : List Value → Nat → List Value → List Value
 | [], _, _ => []
 | _ :: r, 0, v :: vs => v :: setL r 0 vs
 | c :: r, 0, [] => c :: r
 | c :: r, n + 1, vs => c :: setL r n vs
def K3 : Nat → List Value → List Value
 | 0, _ => []
 | _ + 1, [] => []
 | n + 1, c :: r => c :: K3 n r
def Ii : Nat → List Value → List Value
 | 0, l => l
 | _ + 1, [] => []
 | n + 1, _ :: r => Ii n r
def nthL : List Value → Nat → Option Value
 | [], _ => none
 | c :: _, 0 => some c
 | _ :: r, n + 1 => nthL r n
def F6 (env : List (Nat × EV)) : List (Nat × Operand) → Option (List (Nat × Value))
 | [] => some []
 | (i, x) :: r => match opv env x with
  | some v => match F6 env r with
   | some vs => some ((i, v) :: vs)
   | none => none
  | none => none
def Zr (env : List (Nat × EV)) (o : Oper) : Option (Sem Value) :=
 match o.op with
 | .binOp op t x y _ => match opv env x with
  | some a => match opv env y with
   | some b => some (do eqGuard op t x y a b; binOp op t a b)
   | none => none
  | none => none
 | .unOp op _ x => match opv env x with | some a => some (Op.unary op a) | none => none
 | .convert s d x => match opv env x with | some a => some (convert s d a) | none => none
 | .build t ps => match F6 env ps.toList with | some vs => some (Instr.build t vs.toArray) | none => none
 | .field t x f => match opv env x with | some a => some (Instr.field t a f) | none => none
 | .fieldAddr t x f => match opv env x with | some a => some (Instr.fieldAt t a f) | none => none
 | .index t x i => match opv env x with
  | some a => match opv env i with
   | some b => some (Instr.index t a b)
   | none => none
  | none => none
 | .indexAddr t x i => match opv env x with
  | some a => match opv env i with
   | some b => some (Instr.indexAt t a b)
   | none => none
  | none => none
 | .extract x i => match opv env x with | some a => some (Instr.extract a i) | none => none
 | .makeInterface t x => match opv env x with | some a => some (Instr.makeInterface t a) | none => none
 | .makeFunc fn fs cs => match opvs env fs.toList with
  | some a => match opvs env cs.toList with
   | some b => some (Instr.makeFunc fn a.toArray b.toArray)
   | none => none
  | none => none
 | .makeMap t none => some (Instr.makeMap t none)
 | .makeSlice t l c => match opv env l with
  | some a => match opv env c with
   | some b => some (Instr.makeSlice t a b)
   | none => none
  | none => none
 | .lookup t x i ok => match opv env x with
  | some a => match opv env i with
   | some b => some (Instr.lookup t a b ok)
   | none => none
  | none => none
 | .range t x => match opv env x with | some a => some (Instr.range t a) | none => none
 | .next x s => match opv env x with | some a => some (Instr.next a s o.type) | none => none
 | .typeAssert x t u ok => match opv env x with | some a => some (Instr.typeAssert a t u ok) | none => none
 | .call { callee := .builtin b, args, argTypes } => match opvs env args.toList with
  | some vs => match b with
   | .append => some (Builtin.append_ argTypes o.type vs.toArray)
   | .len => some (Builtin.len_ argTypes o.type vs.toArray)
   | .cap => some (Builtin.cap_ argTypes o.type vs.toArray)
   | .copy => some (Builtin.copy_ argTypes o.type vs.toArray)
   | .delete => some (Builtin.delete_ argTypes o.type vs.toArray)
   | .clear => some (Builtin.clear_ argTypes o.type vs.toArray)
   | .min => some (Builtin.min_ argTypes o.type vs.toArray)
   | .max => some (Builtin.max_ argTypes o.type vs.toArray)
   | .unsafeSliceData => some (Builtin.unsafeSliceData_ argTypes o.type vs.toArray)
   | .unsafeString => some (Builtin.unsafeString_ argTypes o.type vs.toArray)
   | _ => none
  | none => none
 | _ => none
def Ac1 (o : Oper) : Bool := match o.dst with | some d => C4 H.known d | none => false
def Zs (o : Oper) : Bool := match o.dst with | some d => C4 H.pureTo d | none => false
def Ff (o : Oper) : Bool := match o.dst with | some d => C4 H.sem d | none => true
def isNamed (o : Oper) : Bool := match o.dst with | some d => C4 H.named d | none => false
def V4 (o : Oper) : Bool := match o.dst with | some d => C4 H.locals d | none => false
def Eh (o : Oper) (v : Value) (k : EV → Prop) : Prop :=
 match Ac1 H o with
 | true => match v with
  | .bool true => k (.lit true)
  | .bool false => k (.lit false)
  | _ => False
 | false => match isNamed H o with
  | false => k (.val v)
  | true => match v with
   | .int kd n => ∀ m : Int, m = n → k (.val (.int kd m))
   | _ => False
def Ey (o : Oper) (s : DS) (k : EV → DS → World → Prop) (w : World) : Prop :=
 match Zr s.env o with
 | none => False
 | some m =>
  match Zs H o with
  | true => shape P o.type fun v => Ao P m v ∧ Eh H o v (fun e => k e s w)
  | false => match Ff H o with
   | true => SemW P m (fun v w' => shape P o.type fun v' => v = v' ∧ Eh H o v' (fun e => k e s w')) w
   | false => match Kz P m with
    | some v => Eh H o v (fun e => k e s w)
    | none => False
def Zt (o : Oper) (k : Value → World → Prop) (pn : List PanicEntry → World → Prop) (e : Ending) (w : World) : Prop :=
 match e with
 | .returned u => shape P o.type fun v => u = v ∧ k v w
 | .panicked c => pn c w
 | .outgrown => False
def V5 (o : Oper) (c : Call) (s : DS) (k : EV → DS → World → Prop) (pn : List PanicEntry → World → Prop) (w : World) : Prop :=
 match opvs s.env c.args.toList with
 | none => False
 | some vs => match c.callee with
  | .value f => match opv s.env f with
   | some (.func (.func g) first captured) => Aa P g (first.toList ++ (vs ++ captured.toList)) w (Zt P o (fun v w' => k (.val v) s w') pn)
   | _ => False
  | _ => False
def addrOf (env : List (Nat × EV)) (x : Operand) (onLoc : Nat → Nat → Prop) (onPtr : Addr → Prop) : Prop :=
 match ope env x with
 | some (.loc id off) => onLoc id off
 | some (.val (.pointer p)) => Ab p onPtr
 | _ => False
def N0 (t : TypeId) (f : Nat) : Option Nat :=
 match P.underlying t with
 | some (.struct fs) => match fs[f]? with
  | some fd => match sizeOf P fd.type with
   | some (_ + 1) => some fd.offset
   | _ => none
  | none => none
 | _ => none
def Gr (env : List (Nat × EV)) (lo : Option Operand) (base : Option Addr) (h cap sz : Nat) (k : Value → Prop) : Prop :=
 match lo with
 | none => k (.slice base h cap)
 | some x => match opv env x with
  | some (.int _ l) => (0 ≤ l ∧ l ≤ h) ∧ k (.slice (if cap = l.toNat then base else base.map (·.add (l.toNat * sz))) (h - l.toNat) (cap - l.toNat))
  | _ => False
def V6 (env : List (Nat × EV)) (lo : Option Operand) (str : ByteArray) (h : Nat) (k : Value → Prop) : Prop :=
 match lo with
 | none => k (.string (str.extract 0 h))
 | some x => match opv env x with
  | some (.int _ l) => (0 ≤ l ∧ l ≤ h) ∧ k (.string (str.extract l.toNat h))
  | _ => False
def Ei (w : World) (b : Nat) (o : Obj) : World := { w with heap := w.heap.setIfInBounds b o }
def A1 (F : List (Nat × LB)) (o : Oper) (s : DS) (k : EV → DS → World → Prop) (pn : List PanicEntry → World → Prop) (w : World) : Prop :=
  match o.op with
  | .move x | .assign x => match ope s.env x with | some e => k e s w | none => False
  | .pick c a b => match ope s.env c with
    | some (.lit true) => match ope s.env a with | some e => k e s w | none => False
    | some (.lit false) => match ope s.env b with | some e => k e s w | none => False
    | _ => False
  | .alloc t => match zeroOf P t with
    | none => False
    | some z => match V4 H o, o.dst with
      | true, some d => Ay (K1 d s.env && Qi d F) (∀ w', Grew w w' → k (.loc d 0) { s with loc := (d, ⟨t, cellsOf z⟩) :: s.loc } w')
      | _, _ => ∀ (b : Nat) (w' : World), Ag w w' b (.cells (cellsOf z).toArray t) → k (.val (.pointer (some ⟨b, 0, none⟩))) s w'
  | .box t x => match opv s.env x with
    | none => False
    | some v => partsOf P t v fun cs => match V4 H o, o.dst with
      | true, some d => Ay (K1 d s.env && Qi d F) (∀ w', Grew w w' → k (.loc d 0) { s with loc := (d, ⟨t, cs⟩) :: s.loc } w')
      | _, _ => ∀ (b : Nat) (w' : World), Ag w w' b (.cells cs.toArray t) → k (.val (.pointer (some ⟨b, 0, none⟩))) s w'
  | .load t a => addrOf s.env a
    (fun id off => match getL s F id, aggB P t with
      | some lb, some false => match nthL lb.cells off with | some v => k (.val v) s w | none => False
      | some lb, some true => match sizeOf P t with
        | some n => Ay (Nat.ble (off + n) lb.cells.length) (k (.val (.agg (K3 n (Ii off lb.cells)).toArray)) s w)
        | none => False
      | _, _ => False)
    (fun ad => match aggB P t, zeroOf P t, sizeOf P t with
      | some false, some z, _ => exV (SV.of z) fun v => w.cell? ad = some v ∧ k (.val v) s w
      | some true, some (.agg cs), some n => Ay (Nat.beq cs.toList.length n) (ex1L (S1.ofL cs.toList) fun vs => Ae w ad 0 vs ∧ k (.val (.agg vs.toArray)) s w)
      | _, _, _ => False)
  | .store t a x => match opv s.env x with
    | none => False
    | some v => partsOf P t v fun cs => addrOf s.env a
      (fun id off => match get s.loc id with
        | some lb => Ay (Nat.ble (off + cs.length) lb.cells.length) (k (.val undef) { s with loc := (id, ⟨lb.ty, setL lb.cells off cs⟩) :: s.loc } w)
        | none => False)
      (fun ad => Af w ad 0 cs ∧ ∀ w', w' = setCells w ad 0 cs → k (.val undef) s w')
  | .nilCheck x => addrOf s.env x (fun id off => k (.loc id off) s w) (fun ad => k (.val (.pointer (some ad))) s w)
  | .fieldAddr t x f => match N0 P t f with
    | some n => addrOf s.env x (fun id off => k (.loc id (off + n)) s w) (fun ad => k (.val (.pointer (some (ad.add n)))) s w)
    | none => False
  | .indexAddr t x i => match opv s.env i, P.underlying t with
    | some (.int _ n), some (.slice e) => match opv s.env x, sizeOf P e with
      | some (.slice base len _), some sz => Ab base fun b => (0 ≤ n ∧ n < len) ∧ k (.val (.pointer (some (b.add (n.toNat * sz))))) s w
      | _, _ => False
    | some (.int _ n), some (.array len e) => match sizeOf P e with
      | some sz => addrOf s.env x (fun id off => (0 ≤ n ∧ n < len) ∧ k (.loc id (off + n.toNat * sz)) s w) (fun b => (0 ≤ n ∧ n < len) ∧ k (.val (.pointer (some (b.add (n.toNat * sz))))) s w)
      | _ => False
    | _, _ => False
  | .index t x i => match Ff H o with
   | true => Ey P H o s k w
   | false => match opv s.env x, opv s.env i, P.underlying t with
    | some (.string str), some (.int _ n), some .string => ∃ b : UInt8, (0 ≤ n ∧ str.data[n.toNat]? = some b) ∧ k (.val (.int .u8 b.toNat)) s w
    | _, _, _ => Ey P H o s k w
  | .slice t x lo hi none => match P.underlying t, opv s.env x with
    | some (.slice e), some (.slice base len cap) => match sizeOf P e with
      | none => False
      | some sz => match hi with
        | none => Gr s.env lo base len cap sz (fun v => k (.val v) s w)
        | some x => match opv s.env x with
          | some (.int _ h) => (0 ≤ h ∧ h ≤ cap) ∧ Gr s.env lo base h.toNat cap sz (fun v => k (.val v) s w)
          | _ => False
    | some (.array n e), some (.pointer p) => match sizeOf P e with
      | none => False
      | some sz => Ab p fun b => match hi with
        | none => Gr s.env lo (some b) n n sz (fun v => k (.val v) s w)
        | some x => match opv s.env x with
          | some (.int _ h) => (0 ≤ h ∧ h ≤ n) ∧ Gr s.env lo (some b) h.toNat n sz (fun v => k (.val v) s w)
          | _ => False
    | some .string, some (.string str) =>
      match hi with
        | none => V6 s.env lo str str.size (fun v => k (.val v) s w)
        | some x => match opv s.env x with
          | some (.int _ h) => (0 ≤ h ∧ h ≤ str.size) ∧ V6 s.env lo str h.toNat (fun v => k (.val v) s w)
          | _ => False
    | _, _ => False
  | .binOp op t x y _ => match Ff H o with
   | true => Ey P H o s k w
   | false => match op, opv s.env x, opv s.env y with
    | .quo, some (.int kd a), some (.int kd' b) => Ay (kd == kd') ((b = 0 → pn [{ v := .iface P.rt.errorString (strVal "integer divide by zero"), recovered := false }] w) ∧ (b ≠ 0 → Eh H o (.int kd (kd.wrap (a.tdiv b))) (fun e => k e s w)))
    | .rem, some (.int kd a), some (.int kd' b) => Ay (kd == kd') ((b = 0 → pn [{ v := .iface P.rt.errorString (strVal "integer divide by zero"), recovered := false }] w) ∧ (b ≠ 0 → Eh H o (.int kd (a.tmod b)) (fun e => k e s w)))
    | .shl, some (.int kd a), some (.int _ b) => 0 ≤ b ∧ Eh H o (.int kd (kd.wrap (a * 2 ^ (min b.toNat kd.bits)))) (fun e => k e s w)
    | .shr, some (.int kd a), some (.int _ b) => 0 ≤ b ∧ Eh H o (.int kd (a.fdiv (2 ^ (min b.toNat kd.bits)))) (fun e => k e s w)
    | .eql, some (.pointer p), some (.pointer none) => Ay (match P.underlying t with | some (.pointer _) => true | _ => false) (Eh H o (.bool p.isNone) (fun e => k e s w))
    | .neq, some (.pointer p), some (.pointer none) => Ay (match P.underlying t with | some (.pointer _) => true | _ => false) (Eh H o (.bool (!p.isNone)) (fun e => k e s w))
    | .eql, some (.slice p _ _), some (.slice none _ _) => Ay (match P.underlying t with | some (.slice _) => true | _ => false) (Eh H o (.bool p.isNone) (fun e => k e s w))
    | .neq, some (.slice p _ _), some (.slice none _ _) => Ay (match P.underlying t with | some (.slice _) => true | _ => false) (Eh H o (.bool (!p.isNone)) (fun e => k e s w))
    | _, _, _ => Ey P H o s k w
  | .unOp .not _ x => match ope s.env x with
    | some (.lit true) => k (.lit false) s w
    | some (.lit false) => k (.lit true) s w
    | some (.val (.bool b)) => k (.val (.bool (!b))) s w
    | _ => False
  | .buildSlice t len ps => match P.underlying t with
    | some (.slice e) => match sizeOf P e, zeroOf P e, F6 s.env ps.toList with
      | some sz, some z, some vs => match Instr.fill (fun i => some (i * sz, sz)) ((Array.range (len * sz)).map (fun i => z.cells[i % z.cells.size]!)) vs with
        | some cs => Ay (Nat.ble (len * sz) 4096) (∀ (b : Nat) (w' : World), Ag w w' b (.cells cs e) → k (.val (.slice (some ⟨b, 0, none⟩) len len)) s w')
        | none => False
      | _, _, _ => False
    | _ => False
  | .mapUpdate t m x y | .insert t m x y => match opv s.env m, opv s.env x, opv s.env y with
    | some a, some b, some c => SemW P (Instr.mapUpdate t a b c) (fun _ w' => k (.val undef) s w') w
    | _, _, _ => False
  | .panic x => match opv s.env x with
    | some (.iface t v) => pn [{ v := .iface t v, recovered := false }] w
    | _ => False
  | .call c => match c.callee with
    | .builtin _ => Ey P H o s k w
    | _ => V5 P o c s k pn w
  | .range t x => match P.underlying t, opv s.env x with
    | some .string, some (.string str) => ∀ (b : Nat) (w' : World), Ag w w' b (.stringIter str 0) → k (.val (.pointer (some ⟨b, 0, none⟩))) s w'
    | _, _ => Ey P H o s k w
  | .next x true => match opv s.env x with
    | some (.pointer (some ⟨b, 0, _⟩)) => ∃ (str : ByteArray) (pos : Nat), w.heap[b]? = some (.stringIter str pos) ∧
        ((pos < str.size → ∀ w' : World, w' = Ei w b (.stringIter str (pos + (Utf8.decode str pos).2)) → k (.val (.tuple #[.bool true, .int .i64 (pos : Int), .int .i32 ((Utf8.decode str pos).1 : Int)])) s w') ∧
         (¬ pos < str.size → k (.val (.tuple #[.bool false])) s w))
    | _ => False
  | .unOp _ _ _ | .convert _ _ _ | .build _ _ | .field _ _ _ | .extract _ _ | .makeInterface _ _ | .makeFunc _ _ _ | .makeMap _ _ | .makeSlice _ _ _ | .lookup _ _ _ _ | .next _ false | .typeAssert _ _ _ _ => Ey P H o s k w
  | _ => False
def putE (n : Nat) (s : DS) (dst : Option Nat) (e : EV) (k : DS → Prop) : Prop :=
 match dst with
 | none => k s
 | some d => Ay (Nat.blt d n) (k { s with env := (d, e) :: s.env })
def Mt (ops : List Oper) (j : Nat) : Option Nat := match ops, j with
 | [], _ => none
 | o :: _, 0 => o.dst
 | _ :: r, j + 1 => Mt r j
def Ss (c : Call) (s : DS) (k : DS → Prop) : Prop :=
 match c.callee with
 | .value f => match opvs s.env c.args.toList with
  | some vs => match opv s.env f with
   | some (.func (.func g) first captured) => k { s with defs := ⟨.fn (.func g) captured, (first.toList ++ vs).toArray⟩ :: s.defs }
   | _ => False
  | none => False
 | _ => False
def N1 (n : Nat) (F : List (Nat × LB)) (o : Oper) (s : DS) (k : DS → World → Prop) (pn : List PanicEntry → World → Prop) (w : World) : Prop :=
 match o.op with
 | .defer c => Ss c s fun s' => putE n s' o.dst (.val undef) fun s'' => k s'' w
 | _ => A1 P H F o s (fun e s' w' => putE n s' o.dst e fun s'' => k s'' w') pn w
def Ez (n : Nat) (F : List (Nat × LB)) (all : List Oper) (K : Exit → DS → World → Prop) : List Oper → DS → World → Prop
  | [], s, w => K .normal s w
  | o :: rest, s, w =>
    let run (s : DS) : Prop := N1 P H n F o s (fun s'' w' => Ez n F all K rest s'' w') (fun c w' => K (.panic c) s w') w
    let skip (s : DS) : Prop := putE n s o.dst (.val undef) fun s' => Ez n F all K rest s' w
    match o.guard with
    | none => run s
    | some (j, want) => match Mt all j with
      | none => False
      | some t => match get s.env t with
        | some (.lit true) => cond want (run s) (skip s)
        | some (.lit false) => cond want (skip s) (run s)
        | some (.val (.bool b)) => Ay (Nat.blt t n)
          ((b = true → let s' : DS := { s with env := (t, .lit true) :: s.env }; cond want (run s') (skip s')) ∧
           (b = false → let s' : DS := { s with env := (t, .lit false) :: s.env }; cond want (skip s') (run s')))
        | some (.val (.tuple _)) => skip s
        | _ => False
end
end Go.Sx
