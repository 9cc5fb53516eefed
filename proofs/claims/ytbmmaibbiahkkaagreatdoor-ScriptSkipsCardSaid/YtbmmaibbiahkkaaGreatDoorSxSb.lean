/- Scripts in lists: texts cut up, what is read, what is printed. Conditions: none. -/
import Derived.Test.YtbmmaibbiahkkaaGreatDoorSxSa
import Derived.Test.YtbmmaibbiahkkaaGreatDoorSxFc
namespace Go.Sx
open Go.Lib
def Af (c : UInt8) : L8 → List L8
 | [] => [[]]
 | x :: r => if x = c then [] :: Af c r else match Af c r with
  | [] => [[x]]
  | h :: t => (x :: h) :: t
theorem Nj (c : UInt8) : ∀ l, Af c l ≠ []
 | [] => by simp [Af]
 | x :: r => by
  unfold Af
  split
  ·simp
  ·split <;> simp
theorem Df {c : UInt8} : ∀ {l : L8}, c ∉ l → Af c l = [l]
 | [], _ => rfl
 | x :: r, h => by
  simp only [List.mem_cons, not_or] at h
  unfold Af
  rw [if_neg (fun e => h.1 e.symm), Df h.2]
theorem C7 {c : UInt8} : ∀ {a : L8} (b : L8), c ∉ a → Af c (a ++ c :: b) = a :: Af c b
 | [], b, _ => by simp [Af]
 | x :: a, b, h => by
  simp only [List.mem_cons, not_or] at h
  rw [List.cons_append]
  conv => lhs; unfold Af
  rw [if_neg (fun e => h.1 e.symm), C7 b h.2]
structure Ah where
 kind : Int
 node : Int
 n : Int
 r : RecV
deriving DecidableEq
structure ScrP where
 n0 : Int
 n1 : Int
 n2 : Int
 n3 : Int
 n4 : Int
 n5 : Int
 n6 : Int
 ops : List OpV
deriving DecidableEq
structure ScrS where
 p : Option ScrP
 steps : List Ah
def Dh : List (L8 × L8) := [([112, 114, 111, 100, 117, 99, 101], [110, 117, 118]), ([115, 119, 105, 116, 99, 104], [110, 107]), ([116, 105, 99, 107], []), ([100, 101, 108, 105, 118, 101, 114], [107]), ([100, 114, 111, 112], [107]), ([99, 111, 112, 121], [107]), ([99, 117, 116], [110, 107]), ([99, 114, 97, 115, 104], [110]), ([114, 101, 115, 116, 97, 114, 116], [110]), ([113, 117, 101, 114, 121], [117]), ([114, 111, 117, 110, 100], [])]
def Ck : L8 := [112, 108, 97, 110]
def opW : L8 := [111, 112]
def M1 (w : L8) : List (L8 × L8) → Nat → Option (Nat × L8)
 | [], _ => none
 | (a, k) :: r, i => if a = w then some (i, k) else M1 w r (i + 1)
def Ef (w : L8) : Option (Nat × L8) := M1 w Dh 1
def Ft (k : Int) : Option (L8 × L8) := if 1 ≤ k then Dh[(k - 1).toNat]? else none
def setA (c : UInt8) (a : L8) (s : Ah) : Option Ah :=
 if c = 110 then (numL a).map fun v => { s with node := v }
 else if c = 107 then (numL a).map fun v => { s with n := v }
 else if c = 117 then (keyL a).map fun v => { s with r := { s.r with key := v } }
 else (fltL a).map fun v => { s with r := { s.r with val := v } }
def Cd : L8 → List L8 → Ah → Option Ah
 | [], [], s => some s
 | c :: cs, a :: as, s => (setA c a s).bind (Cd cs as)
 | _, _, _ => none
def step0 (k : Nat) : Ah := ⟨k, 0, 0, ⟨0, 0⟩⟩
def Di : List L8 → Except Int Ah
 | [] => .error 210
 | w :: args => match Ef w with
  | none => .error 210
  | some (k, asks) => match Cd asks args (step0 k) with
   | none => .error 211
   | some s => .ok s
def E3 : List L8 → Option ScrP
 | [a, b, c, d, e, f, g] => match numL a, numL b, numL c, numL d, numL e, numL f, numL g with
  | some a, some b, some c, some d, some e, some f, some g => some ⟨a, b, c, d, e, f, g, []⟩
  | _, _, _, _, _, _, _ => none
 | _ => none
def opL : List L8 → Option OpV
 | [a, b, c] => match numL a, numL b, fltL c with
  | some a, some b, some c => some ⟨a, b, c⟩
  | _, _, _ => none
 | _ => none
def B5 (st : ScrS) (l : L8) : Except Int ScrS :=
 match Af 32 l with
 | [] => .error 210
 | w :: args => match st.p with
  | none => if w = Ck then (match E3 args with
    | some p => .ok { st with p := some p }
    | none => .error 211) else .error 210
  | some p => if w = opW ∧ st.steps = [] then (match opL args with
    | some o => .ok { st with p := some { p with ops := p.ops ++ [o] } }
    | none => .error 211)
   else if 4096 ≤ st.steps.length then .error 212
   else match Di (w :: args) with
    | .error e => .error e
    | .ok s => .ok { st with steps := st.steps ++ [s] }
def Cp (l : L8) : Bool := match l with
 | [] => true
 | c :: _ => c == 35
def Ai : Nat → ScrS → List L8 → Except (Int × Nat) ScrS
 | _, st, [] => .ok st
 | n, st, l :: r => if Cp l then Ai (n + 1) st r else match B5 st l with
  | .error e => .error (e, n + 1)
  | .ok st' => Ai (n + 1) st' r
def Bw (t : L8) : Except (Int × Nat) (ScrP × List Ah) :=
 if 262144 < t.length then .error (6, 0) else match Ai 0 ⟨none, []⟩ (Af 10 t) with
  | .error e => .error e
  | .ok st => match st.p with
   | none => .error (210, (Af 10 t).length)
   | some p => .ok (p, st.steps)
def B8 (c : UInt8) (s : Ah) : L8 × Ah :=
 if c = 110 then (32 :: itoa s.node, { s with node := 0 })
 else if c = 107 then (32 :: itoa s.n, { s with n := 0 })
 else if c = 117 then (32 :: decDigits s.r.key.toNat, { s with r := { s.r with key := 0 } })
 else (32 :: hexK 16 s.r.val, { s with r := { s.r with val := 0 } })
def emit : L8 → Ah → L8 × Ah
 | [], s => ([], s)
 | c :: cs, s => ((B8 c s).1 ++ (emit cs (B8 c s).2).1, (emit cs (B8 c s).2).2)
def Ah.bare (s : Ah) : Prop := s.node = 0 ∧ s.n = 0 ∧ s.r.key = 0 ∧ s.r.val = 0
instance (s : Ah) : Decidable s.bare := inferInstanceAs (Decidable (_ ∧ _))
def stepT (s : Ah) : Except Int L8 :=
 match Ft s.kind with
 | none => .error 200
 | some (w, asks) => if (emit asks s).2.bare then .ok (w ++ (emit asks s).1) else .error 1
def A2 : List Ah → Except Int L8
 | [] => .ok []
 | s :: r => match stepT s with
  | .error e => .error e
  | .ok a => match A2 r with
   | .error e => .error e
   | .ok b => .ok (a ++ 10 :: b)
def C8 (p : ScrP) : L8 := Ck ++ (([p.n0, p.n1, p.n2, p.n3, p.n4, p.n5, p.n6].map fun n => 32 :: itoa n).flatten ++ [10])
def opT (o : OpV) : L8 := opW ++ (32 :: itoa o.kind ++ (32 :: itoa o.n ++ (32 :: hexK 16 o.x)))
def opsT (l : List OpV) : L8 := (l.map fun o => opT o ++ [10]).flatten
def By (p : ScrP) (steps : List Ah) : Except Int L8 :=
 if 4096 < steps.length then .error 212 else match A2 steps with
  | .error e => .error e
  | .ok t => if 262144 < (C8 p ++ (opsT p.ops ++ t)).length then .error 6 else .ok (C8 p ++ (opsT p.ops ++ t))
end Go.Sx
