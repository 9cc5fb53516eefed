/- The small machine behind the walks: a region's operations read as one proposition, local variables kept outside the world. Conditions: none. -/
import Derived.WalkKit
import Derived.KernelRfl
import Derived.Recover
import Derived.Deep.QuietTactic
namespace Go.Sx
set_option linter.unusedSimpArgs false
inductive EV where
 | val (v : Value)
 | lit (b : Bool)
 | loc (id off : Nat)
structure LB where
 ty : TypeId
 cells : List Value
structure DS where
 env : List (Nat × EV)
 loc : List (Nat × LB)
 defs : List Deferred := []
def get {α : Type} : List (Nat × α) → Nat → Option α
 | [], _ => none
 | (j, v) :: r, t => cond (Nat.beq j t) (some v) (get r t)
def Be : List Nat → Nat → Bool
 | [], _ => false
 | j :: r, t => cond (Nat.beq j t) true (Be r t)
def drop {α : Type} (l : List Nat) : List (Nat × α) → List (Nat × α)
 | [] => []
 | (j, v) :: r => cond (Be l j) (drop l r) ((j, v) :: drop l r)
def pick {α : Type} (l : List Nat) : List (Nat × α) → List (Nat × α)
 | [] => []
 | (j, v) :: r => cond (Be l j) ((j, v) :: pick l r) (pick l r)
def EV.toV : EV → Option Value
 | .val v => some v
 | .lit b => some (.bool b)
 | .loc _ _ => none
def ope (env : List (Nat × EV)) : Operand → Option EV
 | .tmp t => get env t
 | .const (.bool b) => some (.lit b)
 | .const v => some (.val v)
 | .global g => some (.val (.pointer (some ⟨g, 0, none⟩)))
 | .func f => some (.val (.func (.func f) #[] #[]))
def opv (env : List (Nat × EV)) (x : Operand) : Option Value :=
 match ope env x with
 | some e => e.toV
 | none => none
def opvs (env : List (Nat × EV)) : List Operand → Option (List Value)
 | [] => some []
 | x :: r => match opv env x with
  | some v => match opvs env r with
   | some vs => some (v :: vs)
   | none => none
  | none => none
inductive S1 where
 | bool | int (k : IntKind) | float (k : FloatKind) | string | ptr | slice | map | any
inductive SV where
 | one (s : S1)
 | agg (l : List S1)
inductive SH where
 | one (s : SV)
 | tup (l : List SV)
def S1.of : Value → S1
 | .bool _ => .bool | .int k _ => .int k | .float k _ => .float k | .string _ => .string | .pointer _ => .ptr | .slice _ _ _ => .slice | .map _ => .map | _ => .any
def S1.ofL : List Value → List S1
 | [] => []
 | v :: r => S1.of v :: S1.ofL r
def SV.of : Value → SV
 | .agg cs => .agg (S1.ofL cs.toList)
 | v => .one (S1.of v)
def SV.ofL : List Value → List SV
 | [] => []
 | v :: r => SV.of v :: SV.ofL r
def SH.of : Value → SH
 | .tuple vs => .tup (SV.ofL vs.toList)
 | v => .one (SV.of v)
def ex1 : S1 → (Value → Prop) → Prop
 | .bool, φ => ∃ b : Bool, φ (.bool b)
 | .int k, φ => ∃ n : Int, φ (.int k n)
 | .float k, φ => ∃ n : Nat, φ (.float k n)
 | .string, φ => ∃ s : ByteArray, φ (.string s)
 | .ptr, φ => ∃ a : Option Addr, φ (.pointer a)
 | .slice, φ => ∃ (a : Option Addr) (n c : Nat), φ (.slice a n c)
 | .map, φ => ∃ r : Option Nat, φ (.map r)
 | .any, φ => ∃ v : Value, φ v
def ex1L : List S1 → (List Value → Prop) → Prop
 | [], φ => φ []
 | s :: r, φ => ex1 s fun v => ex1L r fun vs => φ (v :: vs)
def exV : SV → (Value → Prop) → Prop
 | .one s, φ => ex1 s φ
 | .agg l, φ => ex1L l fun vs => φ (.agg vs.toArray)
def exVL : List SV → (List Value → Prop) → Prop
 | [], φ => φ []
 | s :: r, φ => exV s fun v => exVL r fun vs => φ (v :: vs)
def exH : SH → (Value → Prop) → Prop
 | .one s, φ => exV s φ
 | .tup l, φ => exVL l fun vs => φ (.tuple vs.toArray)
theorem Hh : ∀ {s : S1} {φ : Value → Prop}, ex1 s φ → ∃ v, φ v
 | .bool, _, ⟨_, h⟩ | .int _, _, ⟨_, h⟩ | .float _, _, ⟨_, h⟩ | .string, _, ⟨_, h⟩ | .ptr, _, ⟨_, h⟩ | .map, _, ⟨_, h⟩ | .any, _, ⟨_, h⟩ => ⟨_, h⟩
 | .slice, _, ⟨_, _, _, h⟩ => ⟨_, h⟩
theorem Hn : ∀ {l : List S1} {φ : List Value → Prop}, ex1L l φ → ∃ vs, φ vs
 | [], _, h => ⟨_, h⟩
 | _ :: _, _, h => by
  obtain ⟨v, h⟩ := Hh h
  obtain ⟨vs, h⟩ := Hn h
  exact ⟨_, h⟩
theorem Hi : ∀ {s : SV} {φ : Value → Prop}, exV s φ → ∃ v, φ v
 | .one _, _, h => Hh h
 | .agg _, _, h => by obtain ⟨vs, h⟩ := Hn h; exact ⟨_, h⟩
theorem Ki : ∀ {l : List SV} {φ : List Value → Prop}, exVL l φ → ∃ vs, φ vs
 | [], _, h => ⟨_, h⟩
 | _ :: _, _, h => by
  obtain ⟨v, h⟩ := Hi h
  obtain ⟨vs, h⟩ := Ki h
  exact ⟨_, h⟩
theorem Pf : ∀ {s : SH} {φ : Value → Prop}, exH s φ → ∃ v, φ v
 | .one _, _, h => Hi h
 | .tup _, _, h => by obtain ⟨vs, h⟩ := Ki h; exact ⟨_, h⟩
def all1 : S1 → (Value → Prop) → Prop
 | .bool, φ => ∀ b : Bool, φ (.bool b)
 | .int k, φ => ∀ n : Int, φ (.int k n)
 | .float k, φ => ∀ n : Nat, φ (.float k n)
 | .string, φ => ∀ s : ByteArray, φ (.string s)
 | .ptr, φ => ∀ a : Option Addr, φ (.pointer a)
 | .slice, φ => ∀ (a : Option Addr) (n c : Nat), φ (.slice a n c)
 | .map, φ => ∀ r : Option Nat, φ (.map r)
 | .any, φ => ∀ v : Value, φ v
def Mf : List S1 → (List Value → Prop) → Prop
 | [], φ => φ []
 | s :: r, φ => all1 s fun v => Mf r fun vs => φ (v :: vs)
def is1 : S1 → Value → Bool
 | .bool, .bool _ => true
 | .int .i8, .int .i8 _ | .int .i16, .int .i16 _ | .int .i32, .int .i32 _ | .int .i64, .int .i64 _ => true
 | .int .u8, .int .u8 _ | .int .u16, .int .u16 _ | .int .u32, .int .u32 _ | .int .u64, .int .u64 _ => true
 | .float .f32, .float .f32 _ | .float .f64, .float .f64 _ => true
 | .string, .string _ | .ptr, .pointer _ | .slice, .slice _ _ _ | .map, .map _ | .any, _ => true
 | _, _ => false
def is1L : List S1 → List Value → Bool
 | [], [] => true
 | s :: r, v :: vs => cond (is1 s v) (is1L r vs) false
 | _, _ => false
theorem Pg : ∀ {s : S1} {φ : Value → Prop}, all1 s φ → ∀ v, is1 s v = true → φ v := by
 intro s φ h v hv
 cases s <;> cases v <;> first | exact h _ | exact h _ _ _ | (simp [is1] at hv; done) | skip
 all_goals
  rename_i k k' n
  cases k <;> cases k' <;> first | exact h _ | (simp [is1] at hv; done)
theorem Ho : ∀ {l : List S1} {φ : List Value → Prop}, Mf l φ → ∀ vs, is1L l vs = true → φ vs
 | [], _, h, [], _ => h
 | s :: r, _, h, v :: vs, hv => by
  have h1 : is1 s v = true ∧ is1L r vs = true := by
   simp only [is1L] at hv
   cases hb : is1 s v <;> simp [hb] at hv ⊢ <;> exact hv
  exact Ho (Pg h v h1.1) vs h1.2
 | [], _, _, _ :: _, hv => by simp [is1L] at hv
 | _ :: _, _, _, [], hv => by simp [is1L] at hv
def TyF (T : Type) : S1 → Type
 | .bool => Bool → T
 | .int _ => Int → T
 | .float _ => Nat → T
 | .string => ByteArray → T
 | .ptr => Option Addr → T
 | .slice => Option Addr → Nat → Nat → T
 | .map => Option Nat → T
 | .any => Value → T
def FunT (T : Type) : List S1 → Type
 | [] => T
 | s :: r => TyF (FunT T r) s
def ap1 {T : Type} : (s : S1) → TyF T s → Value → T → T
 | .bool, f, .bool b, _ => f b
 | .int _, f, .int _ n, _ => f n
 | .float _, f, .float _ n, _ => f n
 | .string, f, .string s, _ => f s
 | .ptr, f, .pointer a, _ => f a
 | .slice, f, .slice a n c, _ => f a n c
 | .map, f, .map r, _ => f r
 | .any, f, v, _ => f v
 | _, _, _, d => d
def D5 {T : Type} (d : T) : (l : List S1) → FunT T l
 | [] => d
 | .bool :: r => fun _ => D5 d r
 | .int _ :: r => fun _ => D5 d r
 | .float _ :: r => fun _ => D5 d r
 | .string :: r => fun _ => D5 d r
 | .ptr :: r => fun _ => D5 d r
 | .slice :: r => fun _ _ _ => D5 d r
 | .map :: r => fun _ => D5 d r
 | .any :: r => fun _ => D5 d r
def apV {T : Type} (d : T) : (l : List S1) → FunT T l → List Value → T
 | [], f, _ => f
 | s :: r, f, v :: vs => apV d r (ap1 s f v (D5 d r)) vs
 | _ :: _, _, [] => d
def hole : Obj := .coro none
structure Ae (w w₀ : World) : Prop where
 os : w.os = w₀.os
 tape : w.tape = w₀.tape
 drawn : w.drawn = w₀.drawn
 output : w.output = w₀.output
 size : w.heap.size = w₀.heap.size
 block : ∀ b : Nat, w.heap[b]? = w₀.heap[b]? ∨ w.heap[b]? = some hole
theorem Ae.refl (w : World) : Ae w w := ⟨rfl, rfl, rfl, rfl, rfl, fun _ => .inl rfl⟩
structure Kept (w w₀ w' w₀' : World) : Prop where
 hid : ∀ b : Nat, w.heap[b]? = some hole → w'.heap[b]? = some hole
 same : ∀ b : Nat, w.heap[b]? = some hole → w₀'.heap[b]? = w₀.heap[b]?
 size : w.heap.size ≤ w'.heap.size
theorem Kept.refl (w w₀ : World) : Kept w w₀ w w₀ := ⟨fun _ h => h, fun _ _ => rfl, Nat.le_refl _⟩
theorem Kept.trans {a a₀ b b₀ c c₀ : World} (h : Kept a a₀ b b₀) (k : Kept b b₀ c c₀) : Kept a a₀ c c₀ :=
 ⟨fun x hx => k.hid x (h.hid x hx), fun x hx => (k.same x (h.hid x hx)).trans (h.same x hx), Nat.le_trans h.size k.size⟩
theorem Fb {w : World} {a : Addr} (h : w.heap[a.block]? = some hole) : w.cell? a = none := by simp [World.cell?, h, hole]
theorem Ae.at {w w₀ : World} (h : Ae w w₀) {b : Nat} {o : Obj} (ho : w.heap[b]? = some o) (hn : o ≠ hole) : w₀.heap[b]? = some o := by
 rcases h.block b with e | e
 ·rw [← e]; exact ho
 ·rw [ho] at e; exact absurd (Option.some.inj e) hn
theorem Ae.cell {w w₀ : World} (h : Ae w w₀) {a : Addr} {v : Value} (hc : w.cell? a = some v) : w₀.cell? a = some v ∧ w₀.heap[a.block]? = w.heap[a.block]? := by
 rcases h.block a.block with e | e
 ·refine ⟨?_, e.symm⟩
  rw [← hc]; simp only [World.cell?, e]
 ·rw [Fb e] at hc; cases hc
theorem Ae.frozen {w w₀ : World} (_ : Ae w w₀) {a : Addr} (he : w₀.heap[a.block]? = w.heap[a.block]?) : w₀.frozen? a = w.frozen? a := by simp only [World.frozen?, he]
theorem Ae.alloc {w w₀ : World} (h : Ae w w₀) (o : Obj) : Ae (w.alloc o) (w₀.alloc o) := by
 refine ⟨h.os, h.tape, h.drawn, h.output, by simp [h.size], fun b => ?_⟩
 show (w.heap.push o)[b]? = (w₀.heap.push o)[b]? ∨ (w.heap.push o)[b]? = some hole
 simp only [Array.getElem?_push, h.size]
 split
 ·exact .inl rfl
 ·exact h.block b
theorem Ae.allocHole {w w₀ : World} (h : Ae w w₀) (o : Obj) : Ae (w.alloc hole) (w₀.alloc o) := by
 refine ⟨h.os, h.tape, h.drawn, h.output, by simp [h.size], fun b => ?_⟩
 show (w.heap.push hole)[b]? = (w₀.heap.push o)[b]? ∨ (w.heap.push hole)[b]? = some hole
 simp only [Array.getElem?_push, h.size]
 split
 ·exact .inr rfl
 ·exact h.block b
theorem Kept.alloc {w w₀ : World} (h : Ae w w₀) (o o₀ : Obj) : Kept w w₀ (w.alloc o) (w₀.alloc o₀) := by
 have lt : ∀ b : Nat, w.heap[b]? = some hole → b < w.heap.size := fun b hb => by
  rcases Nat.lt_or_ge b w.heap.size with h' | h'
  ·exact h'
  ·rw [Array.getElem?_eq_none h'] at hb; cases hb
 refine ⟨fun b hb => ?_, fun b hb => ?_, by simp⟩
 ·show (w.heap.push o)[b]? = some hole
  rw [Array.getElem?_push, if_neg (by have := lt b hb; omega)]; exact hb
 ·show (w₀.heap.push o₀)[b]? = w₀.heap[b]?
  rw [Array.getElem?_push, if_neg (by have := lt b hb; have := h.size; omega)]
structure Grew (w w' : World) : Prop where
 os : w'.os = w.os
 tape : w'.tape = w.tape
 output : w'.output = w.output
 size : w.heap.size ≤ w'.heap.size
 block : ∀ b : Nat, b < w.heap.size → w'.heap[b]? = w.heap[b]?
theorem Grew.refl (w : World) : Grew w w := ⟨rfl, rfl, rfl, Nat.le_refl _, fun _ _ => rfl⟩
theorem Grew.trans {a b c : World} (h : Grew a b) (k : Grew b c) : Grew a c :=
 ⟨k.os.trans h.os, k.tape.trans h.tape, k.output.trans h.output, Nat.le_trans h.size k.size, fun i hi => (k.block i (Nat.lt_of_lt_of_le hi h.size)).trans (h.block i hi)⟩
structure Ar (w w' : World) (b : Nat) (o : Obj) : Prop where
 grew : Grew w w'
 new : w.heap.size ≤ b
 at_ : w'.heap[b]? = some o
theorem Ar.mk' (w : World) (o : Obj) : Ar w (w.alloc o) w.heap.size o :=
 ⟨⟨rfl, rfl, rfl, by simp, fun b hb => by
  show (w.heap.push o)[b]? = _
  rw [Array.getElem?_push, if_neg (by omega)]⟩, Nat.le_refl _, by
  show (w.heap.push o)[w.heap.size]? = some o
  simp⟩
def SemW {α : Type} (P : Program) (s : Sem α) (k : α → World → Prop) (w : World) : Prop :=
 ∀ w₀, Ae w w₀ → ∃ a w₀' w', s.run P w₀ = .ok a w₀' ∧ Ae w' w₀' ∧ Kept w w₀ w' w₀' ∧ k a w'
def Enters (P : Program) (f : FuncId) : Prop := ∃ fn, P.funcs[f]? = some fn ∧ fn.body.isNone = false ∧ (fn.name == "runtime.NumGoroutine") = false
structure Aa (P : Program) (f : FuncId) (args : List Value) (w : World) (R : Ending → World → Prop) : Prop where
 out : (Enters P f ∧ ∀ w₀, Ae w w₀ → Calls P f args.toArray w₀ fun e w₀' => ∃ w', Ae w' w₀' ∧ Kept w w₀ w' w₀' ∧ R e w') ∨
 SemW P (callFunc f args.toArray) (fun nx w' => ∃ v, nx = .value v ∧ R (.returned v) w') w
theorem Aa.mono {P : Program} {f : FuncId} {args : List Value} {w : World} {R R' : Ending → World → Prop} (h : Aa P f args w R) (hr : ∀ e w', R e w' → R' e w') : Aa P f args w R' :=
 .mk <| h.out.imp (fun h => ⟨h.1, fun w₀ hw => (h.2 w₀ hw).mono fun _ _ ⟨w', h1, h2, h3⟩ => ⟨w', h1, h2, hr _ _ h3⟩⟩)
  fun h w₀ hw => let ⟨a, w₀', w', h1, h2, h3, v, h4, h5⟩ := h w₀ hw; ⟨a, w₀', w', h1, h2, h3, v, h4, hr _ _ h5⟩
def Am {α : Type} (P : Program) (s : Sem α) (v : α) : Prop := ∀ w, s.run P w = .ok v w
def F6 {α : Type} (P : Program) : Sem α → Option α
 | .pure a => some a
 | .program k => F6 P (k P)
 | .mark _ k => F6 P k
 | _ => none
theorem Ek {α : Type} {P : Program} : ∀ {s : Sem α} {a : α}, F6 P s = some a → ∀ w, s.run P w = .ok a w
 | .pure _, _, h, w => by simp only [F6, Option.some.injEq] at h; rw [h]; rfl
 | .program k, _, h, w => Ek (s := k P) h w
 | .mark _ k, _, h, w => Ek (s := k) h w
def Ac : Option Addr → (Addr → Prop) → Prop
 | some a, k => k a
 | none, _ => False
theorem Cr : ∀ {p : Option Addr} {k : Addr → Prop}, Ac p k → ∃ a, p = some a ∧ k a
 | some a, _, h => ⟨a, rfl, h⟩
def Gt : Value → Bool
 | .agg _ | .tuple _ => false
 | _ => true
def Ah (w : World) (a : Addr) (i : Nat) : List Value → Prop
 | [] => True
 | v :: r => w.cell? (a.add i) = some v ∧ Ah w a (i + 1) r
def An (w : World) (a : Addr) (i : Nat) : List Value → Prop
 | [] => True
 | _ :: r => (w.cell? (a.add i) ≠ none ∧ w.frozen? (a.add i) = false) ∧ An w a (i + 1) r
def setCells (w : World) (a : Addr) (i : Nat) : List Value → World
 | [] => w
 | v :: r => setCells (w.setCell (a.add i) v) a (i + 1) r
end Go.Sx
