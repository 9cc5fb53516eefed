/- Scripts in lists: texts cut up, what is read, what is printed. Conditions: none. -/
import Derived.Test.YtbmmaibbiahkkaaGreatDoorSxSa
import Derived.Test.YtbmmaibbiahkkaaGreatDoorSxFc
namespace Go.Sx
open Go.Lib
def Ad (c : UInt8) : L8 → List L8
 | [] => [[]]
 | x :: r => if x = c then [] :: Ad c r else match Ad c r with
  | [] => [[x]]
  | h :: t => (x :: h) :: t
theorem Jh (c : UInt8) : ∀ l, Ad c l ≠ []
 | [] => by simp [Ad]
 | x :: r => by
  unfold Ad
  split
  ·simp
  ·split <;> simp
theorem Dc {c : UInt8} : ∀ {l : L8}, c ∉ l → Ad c l = [l]
 | [], _ => rfl
 | x :: r, h => by
  simp only [List.mem_cons, not_or] at h
  unfold Ad
  rw [if_neg (fun e => h.1 e.symm), Dc h.2]
theorem C5 {c : UInt8} : ∀ {a : L8} (b : L8), c ∉ a → Ad c (a ++ c :: b) = a :: Ad c b
 | [], b, _ => by simp [Ad]
 | x :: a, b, h => by
  simp only [List.mem_cons, not_or] at h
  rw [List.cons_append]
  conv => lhs; unfold Ad
  rw [if_neg (fun e => h.1 e.symm), C5 b h.2]
structure Ag where
 kind : Int
 node : Int
 n : Int
 r : RecV
deriving DecidableEq
structure ScrP where
 n0 : Int
 n1 : Int
 n2 : Int
 n3 : Int
 n4 : Int
 n5 : Int
 n6 : Int
 ops : List OpV
deriving DecidableEq
structure ScrS where
 p : Option ScrP
 steps : List Ag
def Dd : List (L8 × L8) := [([112, 114, 111, 100, 117, 99, 101], [110, 117, 118]), ([115, 119, 105, 116, 99, 104], [110, 107]), ([116, 105, 99, 107], []), ([100, 101, 108, 105, 118, 101, 114], [107]), ([100, 114, 111, 112], [107]), ([99, 111, 112, 121], [107]), ([99, 117, 116], [110, 107]), ([99, 114, 97, 115, 104], [110]), ([114, 101, 115, 116, 97, 114, 116], [110]), ([113, 117, 101, 114, 121], [117]), ([114, 111, 117, 110, 100], [])]
def Cn : L8 := [112, 108, 97, 110]
def opW : L8 := [111, 112]
def Mk (w : L8) : List (L8 × L8) → Nat → Option (Nat × L8)
 | [], _ => none
 | (a, k) :: r, i => if a = w then some (i, k) else Mk w r (i + 1)
def Ea (w : L8) : Option (Nat × L8) := Mk w Dd 1
def Fh (k : Int) : Option (L8 × L8) := if 1 ≤ k then Dd[(k - 1).toNat]? else none
def setA (c : UInt8) (a : L8) (s : Ag) : Option Ag :=
 if c = 110 then (numL a).map fun v => { s with node := v }
 else if c = 107 then (numL a).map fun v => { s with n := v }
 else if c = 117 then (keyL a).map fun v => { s with r := { s.r with key := v } }
 else (fltL a).map fun v => { s with r := { s.r with val := v } }
def Cc : L8 → List L8 → Ag → Option Ag
 | [], [], s => some s
 | c :: cs, a :: as, s => (setA c a s).bind (Cc cs as)
 | _, _, _ => none
def step0 (k : Nat) : Ag := ⟨k, 0, 0, ⟨0, 0⟩⟩
def Fi : List L8 → Except Int Ag
 | [] => .error 210
 | w :: args => match Ea w with
  | none => .error 210
  | some (k, asks) => match Cc asks args (step0 k) with
   | none => .error 211
   | some s => .ok s
def Ex : List L8 → Option ScrP
 | [a, b, c, d, e, f, g] => match numL a, numL b, numL c, numL d, numL e, numL f, numL g with
  | some a, some b, some c, some d, some e, some f, some g => some ⟨a, b, c, d, e, f, g, []⟩
  | _, _, _, _, _, _, _ => none
 | _ => none
def opL : List L8 → Option OpV
 | [a, b, c] => match numL a, numL b, fltL c with
  | some a, some b, some c => some ⟨a, b, c⟩
  | _, _, _ => none
 | _ => none
def B5 (st : ScrS) (l : L8) : Except Int ScrS :=
 match Ad 32 l with
 | [] => .error 210
 | w :: args => match st.p with
  | none => if w = Cn then (match Ex args with
    | some p => .ok { st with p := some p }
    | none => .error 211) else .error 210
  | some p => if w = opW ∧ st.steps = [] then (match opL args with
    | some o => .ok { st with p := some { p with ops := p.ops ++ [o] } }
    | none => .error 211)
   else if 4096 ≤ st.steps.length then .error 212
   else match Fi (w :: args) with
    | .error e => .error e
    | .ok s => .ok { st with steps := st.steps ++ [s] }
def Co (l : L8) : Bool := match l with
 | [] => true
 | c :: _ => c == 35
def An : Nat → ScrS → List L8 → Except (Int × Nat) ScrS
 | _, st, [] => .ok st
 | n, st, l :: r => if Co l then An (n + 1) st r else match B5 st l with
  | .error e => .error (e, n + 1)
  | .ok st' => An (n + 1) st' r
def Bp (t : L8) : Except (Int × Nat) (ScrP × List Ag) :=
 if 262144 < t.length then .error (6, 0) else match An 0 ⟨none, []⟩ (Ad 10 t) with
  | .error e => .error e
  | .ok st => match st.p with
   | none => .error (210, (Ad 10 t).length)
   | some p => .ok (p, st.steps)
def B6 (c : UInt8) (s : Ag) : L8 × Ag :=
 if c = 110 then (32 :: itoa s.node, { s with node := 0 })
 else if c = 107 then (32 :: itoa s.n, { s with n := 0 })
 else if c = 117 then (32 :: decDigits s.r.key.toNat, { s with r := { s.r with key := 0 } })
 else (32 :: hexK 16 s.r.val, { s with r := { s.r with val := 0 } })
def emit : L8 → Ag → L8 × Ag
 | [], s => ([], s)
 | c :: cs, s => ((B6 c s).1 ++ (emit cs (B6 c s).2).1, (emit cs (B6 c s).2).2)
def Ag.bare (s : Ag) : Prop := s.node = 0 ∧ s.n = 0 ∧ s.r.key = 0 ∧ s.r.val = 0
instance (s : Ag) : Decidable s.bare := inferInstanceAs (Decidable (_ ∧ _))
def stepT (s : Ag) : Except Int L8 :=
 match Fh s.kind with
 | none => .error 200
 | some (w, asks) => if (emit asks s).2.bare then .ok (w ++ (emit asks s).1) else .error 1
def A6 : List Ag → Except Int L8
 | [] => .ok []
 | s :: r => match stepT s with
  | .error e => .error e
  | .ok a => match A6 r with
   | .error e => .error e
   | .ok b => .ok (a ++ 10 :: b)
def De (p : ScrP) : L8 := Cn ++ (([p.n0, p.n1, p.n2, p.n3, p.n4, p.n5, p.n6].map fun n => 32 :: itoa n).flatten ++ [10])
def opT (o : OpV) : L8 := opW ++ (32 :: itoa o.kind ++ (32 :: itoa o.n ++ (32 :: hexK 16 o.x)))
def opsT (l : List OpV) : L8 := (l.map fun o => opT o ++ [10]).flatten
def Bv (p : ScrP) (steps : List Ag) : Except Int L8 :=
 if 4096 < steps.length then .error 212 else match A6 steps with
  | .error e => .error e
  | .ok t => if 262144 < (De p ++ (opsT p.ops ++ t)).length then .error 6 else .ok (De p ++ (opsT p.ops ++ t))
end Go.Sx
