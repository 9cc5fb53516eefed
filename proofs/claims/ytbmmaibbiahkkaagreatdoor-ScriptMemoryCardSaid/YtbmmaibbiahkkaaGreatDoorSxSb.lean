/- Scripts in lists: texts cut up, what is read, what is printed. Conditions: none. -/
import Derived.Test.YtbmmaibbiahkkaaGreatDoorSxSa
import Derived.Test.YtbmmaibbiahkkaaGreatDoorSxFc
namespace Go.Sx
open Go.Lib
def Ag (c : UInt8) : L8 → List L8
 | [] => [[]]
 | x :: r => if x = c then [] :: Ag c r else match Ag c r with
  | [] => [[x]]
  | h :: t => (x :: h) :: t
theorem M6 (c : UInt8) : ∀ l, Ag c l ≠ []
 | [] => by simp [Ag]
 | x :: r => by
  unfold Ag
  split
  ·simp
  ·split <;> simp
theorem De {c : UInt8} : ∀ {l : L8}, c ∉ l → Ag c l = [l]
 | [], _ => rfl
 | x :: r, h => by
  simp only [List.mem_cons, not_or] at h
  unfold Ag
  rw [if_neg (fun e => h.1 e.symm), De h.2]
theorem C6 {c : UInt8} : ∀ {a : L8} (b : L8), c ∉ a → Ag c (a ++ c :: b) = a :: Ag c b
 | [], b, _ => by simp [Ag]
 | x :: a, b, h => by
  simp only [List.mem_cons, not_or] at h
  rw [List.cons_append]
  conv => lhs; unfold Ag
  rw [if_neg (fun e => h.1 e.symm), C6 b h.2]
structure Af where
 kind : Int
 node : Int
 n : Int
 r : RecV
deriving DecidableEq
structure ScrP where
 n0 : Int
 n1 : Int
 n2 : Int
 n3 : Int
 n4 : Int
 n5 : Int
 n6 : Int
 ops : List OpV
deriving DecidableEq
structure ScrS where
 p : Option ScrP
 steps : List Af
def Df : List (L8 × L8) := [([112, 114, 111, 100, 117, 99, 101], [110, 117, 118]), ([115, 119, 105, 116, 99, 104], [110, 107]), ([116, 105, 99, 107], []), ([100, 101, 108, 105, 118, 101, 114], [107]), ([100, 114, 111, 112], [107]), ([99, 111, 112, 121], [107]), ([99, 117, 116], [110, 107]), ([99, 114, 97, 115, 104], [110]), ([114, 101, 115, 116, 97, 114, 116], [110]), ([113, 117, 101, 114, 121], [117]), ([114, 111, 117, 110, 100], [])]
def Cp : L8 := [112, 108, 97, 110]
def opW : L8 := [111, 112]
def Mq (w : L8) : List (L8 × L8) → Nat → Option (Nat × L8)
 | [], _ => none
 | (a, k) :: r, i => if a = w then some (i, k) else Mq w r (i + 1)
def Ee (w : L8) : Option (Nat × L8) := Mq w Df 1
def Fs (k : Int) : Option (L8 × L8) := if 1 ≤ k then Df[(k - 1).toNat]? else none
def setA (c : UInt8) (a : L8) (s : Af) : Option Af :=
 if c = 110 then (numL a).map fun v => { s with node := v }
 else if c = 107 then (numL a).map fun v => { s with n := v }
 else if c = 117 then (keyL a).map fun v => { s with r := { s.r with key := v } }
 else (fltL a).map fun v => { s with r := { s.r with val := v } }
def Cd : L8 → List L8 → Af → Option Af
 | [], [], s => some s
 | c :: cs, a :: as, s => (setA c a s).bind (Cd cs as)
 | _, _, _ => none
def step0 (k : Nat) : Af := ⟨k, 0, 0, ⟨0, 0⟩⟩
def Ft : List L8 → Except Int Af
 | [] => .error 210
 | w :: args => match Ee w with
  | none => .error 210
  | some (k, asks) => match Cd asks args (step0 k) with
   | none => .error 211
   | some s => .ok s
def E3 : List L8 → Option ScrP
 | [a, b, c, d, e, f, g] => match numL a, numL b, numL c, numL d, numL e, numL f, numL g with
  | some a, some b, some c, some d, some e, some f, some g => some ⟨a, b, c, d, e, f, g, []⟩
  | _, _, _, _, _, _, _ => none
 | _ => none
def opL : List L8 → Option OpV
 | [a, b, c] => match numL a, numL b, fltL c with
  | some a, some b, some c => some ⟨a, b, c⟩
  | _, _, _ => none
 | _ => none
def Cj (st : ScrS) (l : L8) : Except Int ScrS :=
 match Ag 32 l with
 | [] => .error 210
 | w :: args => match st.p with
  | none => if w = Cp then (match E3 args with
    | some p => .ok { st with p := some p }
    | none => .error 211) else .error 210
  | some p => if w = opW ∧ st.steps = [] then (match opL args with
    | some o => .ok { st with p := some { p with ops := p.ops ++ [o] } }
    | none => .error 211)
   else if 4096 ≤ st.steps.length then .error 212
   else match Ft (w :: args) with
    | .error e => .error e
    | .ok s => .ok { st with steps := st.steps ++ [s] }
def Dh (l : L8) : Bool := match l with
 | [] => true
 | c :: _ => c == 35
def Ap : Nat → ScrS → List L8 → Except (Int × Nat) ScrS
 | _, st, [] => .ok st
 | n, st, l :: r => if Dh l then Ap (n + 1) st r else match Cj st l with
  | .error e => .error (e, n + 1)
  | .ok st' => Ap (n + 1) st' r
def B6 (t : L8) : Except (Int × Nat) (ScrP × List Af) :=
 if 262144 < t.length then .error (6, 0) else match Ap 0 ⟨none, []⟩ (Ag 10 t) with
  | .error e => .error e
  | .ok st => match st.p with
   | none => .error (210, (Ag 10 t).length)
   | some p => .ok (p, st.steps)
def B7 (c : UInt8) (s : Af) : L8 × Af :=
 if c = 110 then (32 :: itoa s.node, { s with node := 0 })
 else if c = 107 then (32 :: itoa s.n, { s with n := 0 })
 else if c = 117 then (32 :: decDigits s.r.key.toNat, { s with r := { s.r with key := 0 } })
 else (32 :: hexK 16 s.r.val, { s with r := { s.r with val := 0 } })
def emit : L8 → Af → L8 × Af
 | [], s => ([], s)
 | c :: cs, s => ((B7 c s).1 ++ (emit cs (B7 c s).2).1, (emit cs (B7 c s).2).2)
def Af.bare (s : Af) : Prop := s.node = 0 ∧ s.n = 0 ∧ s.r.key = 0 ∧ s.r.val = 0
instance (s : Af) : Decidable s.bare := inferInstanceAs (Decidable (_ ∧ _))
def stepT (s : Af) : Except Int L8 :=
 match Fs s.kind with
 | none => .error 200
 | some (w, asks) => if (emit asks s).2.bare then .ok (w ++ (emit asks s).1) else .error 1
def A5 : List Af → Except Int L8
 | [] => .ok []
 | s :: r => match stepT s with
  | .error e => .error e
  | .ok a => match A5 r with
   | .error e => .error e
   | .ok b => .ok (a ++ 10 :: b)
def Dx (p : ScrP) : L8 := Cp ++ (([p.n0, p.n1, p.n2, p.n3, p.n4, p.n5, p.n6].map fun n => 32 :: itoa n).flatten ++ [10])
def opT (o : OpV) : L8 := opW ++ (32 :: itoa o.kind ++ (32 :: itoa o.n ++ (32 :: hexK 16 o.x)))
def opsT (l : List OpV) : L8 := (l.map fun o => opT o ++ [10]).flatten
def Bm (p : ScrP) (steps : List Af) : Except Int L8 :=
 if 4096 < steps.length then .error 212 else match A5 steps with
  | .error e => .error e
  | .ok t => if 262144 < (Dx p ++ (opsT p.ops ++ t)).length then .error 6 else .ok (Dx p ++ (opsT p.ops ++ t))
end Go.Sx
