/- What the reference source's methods hand back. Conditions: none. -/
import Derived.Test.YtifhpmmdfjmppaaGreatProg
import Derived.Test.YtifhpmmdfjmppaaGreatSrcA
import Derived.Test.YtifhpmmdfjmppaaGreatRefO
import Derived.Test.YtifhpmmdfjmppaaGreatSxSt
namespace Go.Proofs.YtifhpmmdfjmppaaGreat
open Go.Sx
set_option maxRecDepth 100000
set_option linter.unusedVariables false
set_option linter.unusedSimpArgs false
/- reprise/repriseref06.New -/
def sx6 (parts : Int) (list : Option Addr) (list_n list_c : Nat) (R : Ending → World → Prop) (w : World) : Prop :=
  (((decide (parts < 1)) = true → R (.returned (.tuple #[.pointer none, .int .i64 1])) w) ∧ ((decide (parts < 1)) = false → (((decide (parts > 4)) = true → R (.returned (.tuple #[.pointer none, .int .i64 1])) w) ∧ ((decide
    (parts > 4)) = false → CallsW Tryz.prog 24 [.slice list list_n list_c] w (RetR R fun u2 w1 => ∃ (n3 : Int), u2 = .int .i64 n3 ∧ (((n3 != 0) = true → R (.returned (.tuple #[.pointer none, .int .i64 30])) w1) ∧ ((n3 !=
    0) = false → ∀ (b5 : Nat) (w6 : World), Alloc w1 w6 b5 (.cells #[] 53) → SemW Tryz.prog (Builtin.append_ #[22, 22] 22 #[.slice (some ⟨b5, 0, none⟩) 0 0, .slice list list_n list_c]) (fun u8 w7 => ∃ (a9 : Option Addr)
    (l9 c9 : Nat), u8 = .slice a9 l9 c9 ∧ ∀ w10, Grew w7 w10 → ((SemW Tryz.prog (Instr.makeSlice 63 (.int .i64 parts) (.int .i64 parts)) (fun u12 w11 => ∃ (a13 : Option Addr) (l13 c13 : Nat), u12 = .slice a13 l13 c13 ∧
    SameB w10 w11 [] ∧ SemW Tryz.prog (Instr.makeSlice 64 (.int .i64 parts) (.int .i64 parts)) (fun u15 w14 => ∃ (a16 : Option Addr) (l16 c16 : Nat), u15 = .slice a16 l16 c16 ∧ SameB w11 w14 [] ∧ ∀ (b17 : Nat) (w18 :
    World), Alloc w14 w18 b17 (.cells [.slice a13 l13 c13, .slice a16 l16 c16, .slice a9 l9 c9].toArray 66) → SameB w14 w18 [] ∧ R (.returned (.tuple #[.pointer (some ⟨b17, 0, none⟩), .int .i64 0])) w18) w11) w10) ∧ (SemW
    Tryz.prog (Instr.makeSlice 64 (.int .i64 parts) (.int .i64 parts)) (fun u20 w19 => ∃ (a21 : Option Addr) (l21 c21 : Nat), u20 = .slice a21 l21 c21 ∧ SameB w10 w19 [] ∧ SemW Tryz.prog (Instr.makeSlice 63 (.int .i64
    parts) (.int .i64 parts)) (fun u23 w22 => ∃ (a24 : Option Addr) (l24 c24 : Nat), u23 = .slice a24 l24 c24 ∧ SameB w19 w22 [] ∧ ∀ (b25 : Nat) (w26 : World), Alloc w22 w26 b25 (.cells [.slice a24 l24 c24, .slice a21 l21
    c21, .slice a9 l9 c9].toArray 66) → SameB w22 w26 [] ∧ R (.returned (.tuple #[.pointer (some ⟨b25, 0, none⟩), .int .i64 0])) w26) w19) w10))) w6)))))))
theorem sx6.ok {parts : Int} {list : Option Addr} {list_n list_c : Nat} {R : Ending → World → Prop} {w : World} (h : sx6 parts list list_n list_c R w) : CallsW Tryz.prog 6 [.int .i64 parts, .slice list list_n list_c] w R :=
  callsW_of mix Tryz.func6 (by kernel_rfl) (by kernel_rfl) (Eq.mpr (by kernel_rfl : denFn Tryz.prog { sem := [19, 21, 23], draws := [(7, { order := (.cons 0 (.cons 2 (.cons 4 (.alt (.cons 1 (.cons 3 (.cons 5 (.cons 6 (.cons 7 (.cons 8 .nil)))))) (.cons 3 (.cons 1 (.cons 5 (.cons 6 (.cons 7 (.cons 8 .nil)))))))))), bars := [] })] } Tryz.f6 [.int .i64 parts, .slice list list_n list_c] R w = sx6 parts list list_n list_c R w) h)

/- (*reprise/repriseref06.Source).has -/
def sx36 (s : Nat) (p : Int) (R : Ending → World → Prop) (w : World) : Prop :=
  (((decide (p ≥ 0)) = true → ∃ (a1 : Option Addr) (l1 c1 : Nat), w.cell? ⟨s, 0, none⟩ = some (.slice a1 l1 c1) ∧ R (.returned (.bool (decide (p < ((l1 : Nat) : Int))))) w) ∧ ((decide (p ≥ 0)) = false → R (.returned (.bool
    false)) w))
theorem sx36.ok {s : Nat} {p : Int} {R : Ending → World → Prop} {w : World} (h : sx36 s p R w) : CallsW Tryz.prog 36 [.pointer (some ⟨s, 0, none⟩), .int .i64 p] w R :=
  callsW_of mix Tryz.func36 (by kernel_rfl) (by kernel_rfl) (Eq.mpr (by kernel_rfl : denFn Tryz.prog { known := [6] } Tryz.f36 [.pointer (some ⟨s, 0, none⟩), .int .i64 p] R w = sx36 s p R w) h)

/- (*reprise/repriseref06.Source).Parts -/
def sx12 (s : Nat) (R : Ending → World → Prop) (w : World) : Prop :=
  ∃ (a1 : Option Addr) (l1 c1 : Nat), w.cell? ⟨s, 0, none⟩ = some (.slice a1 l1 c1) ∧ R (.returned (.int .i64 ((l1 : Nat) : Int))) w
theorem sx12.ok {s : Nat} {R : Ending → World → Prop} {w : World} (h : sx12 s R w) : CallsW Tryz.prog 12 [.pointer (some ⟨s, 0, none⟩)] w R :=
  callsW_of mix Tryz.func12 (by kernel_rfl) (by kernel_rfl) (Eq.mpr (by kernel_rfl : denFn Tryz.prog { known := [4] } Tryz.f12 [.pointer (some ⟨s, 0, none⟩)] R w = sx12 s R w) h)

/- (*reprise/repriseref06.Source).Up -/
def sx17 (s : Nat) (p : Int) (R : Ending → World → Prop) (w : World) : Prop :=
  CallsW Tryz.prog 36 [.pointer (some ⟨s, 0, none⟩), .int .i64 p] w (RetR R fun u2 w1 => ∃ (b3 : Bool), u2 = .bool b3 ∧ ((b3 = true → ∃ (a5 : Option Addr) (l5 c5 : Nat), w1.cell? ⟨s, 1, none⟩ = some (.slice a5 l5 c5) ∧
    withSome a5 (fun d6 => (0 ≤ p ∧ p < (l5 : Nat)) ∧ ∃ (b7 : Bool), w1.cell? (Addr.add d6 (p.toNat * 1)) = some (.bool b7) ∧ R (.returned (.bool (!b7))) w1)) ∧ (b3 = false → R (.returned (.bool false)) w1)))
theorem sx17.ok {s : Nat} {p : Int} {R : Ending → World → Prop} {w : World} (h : sx17 s p R w) : CallsW Tryz.prog 17 [.pointer (some ⟨s, 0, none⟩), .int .i64 p] w R :=
  callsW_of mix Tryz.func17 (by kernel_rfl) (by kernel_rfl) (Eq.mpr (by kernel_rfl : denFn Tryz.prog {} Tryz.f17 [.pointer (some ⟨s, 0, none⟩), .int .i64 p] R w = sx17 s p R w) h)

/- (*reprise/repriseref06.Source).Len -/
def sx19 (s : Nat) (p : Int) (R : Ending → World → Prop) (w : World) : Prop :=
  CallsW Tryz.prog 36 [.pointer (some ⟨s, 0, none⟩), .int .i64 p] w (RetR R fun u2 w1 => ∃ (b3 : Bool), u2 = .bool b3 ∧ (((!b3) = true → R (.returned (.int .i64 0)) w1) ∧ ((!b3) = false → ∃ (a5 : Option Addr) (l5 c5 : Nat),
    w1.cell? ⟨s, 0, none⟩ = some (.slice a5 l5 c5) ∧ withSome a5 (fun d6 => (0 ≤ p ∧ p < (l5 : Nat)) ∧ ∃ (a7 : Option Addr) (l7 c7 : Nat), w1.cell? (Addr.add d6 (p.toNat * 1)) = some (.slice a7 l7 c7) ∧ R (.returned (.int
    .i64 ((l7 : Nat) : Int))) w1))))
theorem sx19.ok {s : Nat} {p : Int} {R : Ending → World → Prop} {w : World} (h : sx19 s p R w) : CallsW Tryz.prog 19 [.pointer (some ⟨s, 0, none⟩), .int .i64 p] w R :=
  callsW_of mix Tryz.func19 (by kernel_rfl) (by kernel_rfl) (Eq.mpr (by kernel_rfl : denFn Tryz.prog {} Tryz.f19 [.pointer (some ⟨s, 0, none⟩), .int .i64 p] R w = sx19 s p R w) h)

/- (*reprise/repriseref06.Source).Switch -/
def sx27 (s : Nat) (p : Int) (on : Bool) (R : Ending → World → Prop) (w : World) : Prop :=
  CallsW Tryz.prog 36 [.pointer (some ⟨s, 0, none⟩), .int .i64 p] w (RetR R fun u2 w1 => ∃ (b3 : Bool), u2 = .bool b3 ∧ (((!b3) = true → R (.returned (.int .i64 60)) w1) ∧ ((!b3) = false → ∃ (a5 : Option Addr) (l5 c5 : Nat),
    w1.cell? ⟨s, 1, none⟩ = some (.slice a5 l5 c5) ∧ withSome a5 (fun d6 => (0 ≤ p ∧ p < (l5 : Nat)) ∧ RoomAt w1 (Addr.add d6 (p.toNat * 1)) 0 [.bool (!on)] ∧ ∀ w7, w7 = setCells w1 (Addr.add d6 (p.toNat * 1)) 0 [.bool
    (!on)] → R (.returned (.int .i64 0)) w7))))
theorem sx27.ok {s : Nat} {p : Int} {on : Bool} {R : Ending → World → Prop} {w : World} (h : sx27 s p on R w) : CallsW Tryz.prog 27 [.pointer (some ⟨s, 0, none⟩), .int .i64 p, .bool on] w R :=
  callsW_of mix Tryz.func27 (by kernel_rfl) (by kernel_rfl) (Eq.mpr (by kernel_rfl : denFn Tryz.prog { known := [8] } Tryz.f27 [.pointer (some ⟨s, 0, none⟩), .int .i64 p, .bool on] R w = sx27 s p on R w) h)

/- (*reprise/repriseref06.Source).Log -/
def sx15 (s : Nat) (p : Int) (R : Ending → World → Prop) (w : World) : Prop :=
  ∀ (b1 : Nat) (w2 : World), Alloc w w2 b1 (.cells #[] 38) → CallsW Tryz.prog 36 [.pointer (some ⟨s, 0, none⟩), .int .i64 p] w2 (RetR R fun u4 w3 => ∃ (b5 : Bool), u4 = .bool b5 ∧ ((b5 = true → ∃ (a7 : Option Addr) (l7 c7 :
    Nat), w3.cell? ⟨s, 0, none⟩ = some (.slice a7 l7 c7) ∧ withSome a7 (fun d8 => (0 ≤ p ∧ p < (l7 : Nat)) ∧ ∃ (a9 : Option Addr) (l9 c9 : Nat), w3.cell? (Addr.add d8 (p.toNat * 1)) = some (.slice a9 l9 c9) ∧ SemW
    Tryz.prog (Builtin.append_ #[47, 47] 47 #[.slice (some ⟨b1, 0, none⟩) 0 0, .slice a9 l9 c9]) (fun u11 w10 => ∃ (a12 : Option Addr) (l12 c12 : Nat), u11 = .slice a12 l12 c12 ∧ R (.returned (.slice a12 l12 c12)) w10)
    w3)) ∧ (b5 = false → R (.returned (.slice (some ⟨b1, 0, none⟩) 0 0)) w3)))
theorem sx15.ok {s : Nat} {p : Int} {R : Ending → World → Prop} {w : World} (h : sx15 s p R w) : CallsW Tryz.prog 15 [.pointer (some ⟨s, 0, none⟩), .int .i64 p] w R :=
  callsW_of mix Tryz.func15 (by kernel_rfl) (by kernel_rfl) (Eq.mpr (by kernel_rfl : denFn Tryz.prog { sem := [18] } Tryz.f15 [.pointer (some ⟨s, 0, none⟩), .int .i64 p] R w = sx15 s p R w) h)

/- (*reprise/repriseref06.Source).Read -/
def sx28 (d : Nat) (i : Int) (p2 : Int) (p3 : Int) (R : Ending → World → Prop) (w : World) : Prop :=
  CallsW Tryz.prog 36 [.pointer (some ⟨d, 0, none⟩), .int .i64 i] w (RetR R fun u2 w1 => ∃ (b3 : Bool), u2 = .bool b3 ∧ (((!b3) = true → R (.returned (.tuple #[.slice none 0 0, .int .i64 60])) w1) ∧ ((!b3) = false → ∃ (a5 :
    Option Addr) (l5 c5 : Nat), w1.cell? ⟨d, 0, none⟩ = some (.slice a5 l5 c5) ∧ withSome a5 (fun d6 => (0 ≤ i ∧ i < (l5 : Nat)) ∧ ∃ (a7 : Option Addr) (l7 c7 : Nat), w1.cell? (Addr.add d6 (i.toNat * 1)) = some (.slice a7
    l7 c7) ∧ (((decide (p2 < 0)) = true → R (.returned (.tuple #[.slice none 0 0, .int .i64 1])) w1) ∧ ((decide (p2 < 0)) = false → (((decide (p2 > ((l7 : Nat) : Int))) = true → R (.returned (.tuple #[.slice none 0 0,
    .int .i64 1])) w1) ∧ ((decide (p2 > ((l7 : Nat) : Int))) = false → (((decide (p3 < 0)) = true → R (.returned (.tuple #[.slice none 0 0, .int .i64 1])) w1) ∧ ((decide (p3 < 0)) = false → ∃ (a8 : Option Addr) (l8 c8 :
    Nat), w1.cell? ⟨d, 1, none⟩ = some (.slice a8 l8 c8) ∧ withSome a8 (fun d9 => (0 ≤ i ∧ i < (l8 : Nat)) ∧ ∃ (b10 : Bool), w1.cell? (Addr.add d9 (i.toNat * 1)) = some (.bool b10) ∧ ((b10 = true → R (.returned (.tuple
    #[.slice none 0 0, .int .i64 63])) w1) ∧ (b10 = false → ∀ (b11 : Nat) (w12 : World), Alloc w1 w12 b11 (.cells #[] 38) → ∃ (I13 : Option Addr → Nat → Nat → Int → World → Prop) (m13 : Option Addr → Nat → Nat → Int →
    World → Nat), I13 (some ⟨b11, 0, none⟩) 0 0 p2 w12 ∧ ∀ (a14 : Option Addr) (l14 c14 : Nat) (n15 : Int) (w16 : World), I13 a14 l14 c14 n15 w16 → (((decide (n15 < ((l7 : Nat) : Int))) = true → (((decide (((l14 : Nat) :
    Int) < p3)) = true → ∃ (a17 : Option Addr) (l17 c17 : Nat), w16.cell? ⟨d, 0, none⟩ = some (.slice a17 l17 c17) ∧ withSome a17 (fun d18 => (0 ≤ i ∧ i < (l17 : Nat)) ∧ ∃ (a19 : Option Addr) (l19 c19 : Nat), w16.cell?
    (Addr.add d18 (i.toNat * 1)) = some (.slice a19 l19 c19) ∧ withSome a19 (fun d20 => (0 ≤ n15 ∧ n15 < (l19 : Nat)) ∧ ∃ (n21 : Int) (x22 : Nat), CellsAt w16 (Addr.add d20 (n15.toNat * 2)) 0 [.int .u64 n21, .float .f64
    x22] ∧ ∀ (b23 : Nat) (w24 : World), Alloc w16 w24 b23 (.cells #[.int .u64 n21, .float .f64 x22] 38) → SemW Tryz.prog (Builtin.append_ #[47, 47] 47 #[.slice a14 l14 c14, .slice (some ⟨b23, 0, none⟩) 1 1]) (fun u26 w25
    => ∃ (a27 : Option Addr) (l27 c27 : Nat), u26 = .slice a27 l27 c27 ∧ (I13 a27 l27 c27 (IntKind.i64.wrap (n15 + 1)) w25 ∧ m13 a27 l27 c27 (IntKind.i64.wrap (n15 + 1)) w25 < m13 a14 l14 c14 n15 w16)) w24))) ∧ ((decide
    (((l14 : Nat) : Int) < p3)) = false → R (.returned (.tuple #[.slice a14 l14 c14, .int .i64 0])) w16))) ∧ ((decide (n15 < ((l7 : Nat) : Int))) = false → R (.returned (.tuple #[.slice a14 l14 c14, .int .i64 0]))
    w16)))))))))))))))
theorem sx28.ok {d : Nat} {i : Int} {p2 : Int} {p3 : Int} {R : Ending → World → Prop} {w : World} (h : sx28 d i p2 p3 R w) : CallsW Tryz.prog 28 [.pointer (some ⟨d, 0, none⟩), .int .i64 i, .int .i64 p2, .int .i64 p3] w R :=
  callsW_of mix Tryz.func28 (by kernel_rfl) (by kernel_rfl) (Eq.mpr (by kernel_rfl : denFn Tryz.prog { known := [14], sem := [70], loops := [(12, { slots := [(11, .slice), (12, .int .i64)], cells := [] })] } Tryz.f28 [.pointer (some ⟨d, 0, none⟩), .int .i64 i, .int .i64 p2, .int .i64 p3] R w = sx28 d i p2 p3 R w) h)

/- reprise/repriseref06.With -/
def sx32 (l : Option Addr) (l_n l_c : Nat) (k : Int) (R : Ending → World → Prop) (w : World) : Prop :=
  ∃ (J1 : Int → World → Prop), (∃ (I2 : Int → World → Prop) (m2 : Int → World → Nat), I2 0 w ∧ ∀ (n3 : Int) (w4 : World), I2 n3 w4 → (((decide (n3 < ((l_n : Nat) : Int))) = true → withSome l (fun d5 => (0 ≤ n3 ∧ n3 < (l_n :
    Nat)) ∧ ∃ (n6 : Int), w4.cell? (Addr.add d5 (n3.toNat * 1)) = some (.int .u64 n6) ∧ (((decide (n6 < k)) = true → (I2 (IntKind.i64.wrap (n3 + 1)) w4 ∧ m2 (IntKind.i64.wrap (n3 + 1)) w4 < m2 n3 w4)) ∧ ((decide (n6 < k))
    = false → J1 n3 w4)))) ∧ ((decide (n3 < ((l_n : Nat) : Int))) = false → J1 n3 w4))) ∧ ∀ (n7 : Int) (w8 : World), J1 n7 w8 → (((decide (n7 < ((l_n : Nat) : Int))) = true → withSome l (fun d9 => (0 ≤ n7 ∧ n7 < (l_n :
    Nat)) ∧ ∃ (n10 : Int), w8.cell? (Addr.add d9 (n7.toNat * 1)) = some (.int .u64 n10) ∧ (((n10 == k) = true → R (.returned (.slice l l_n l_c)) w8) ∧ ((n10 == k) = false → ∀ (b11 : Nat) (w12 : World), Alloc w8 w12 b11
    (.cells #[.int .u64 0] 35) → SemW Tryz.prog (Builtin.append_ #[43, 43] 43 #[.slice l l_n l_c, .slice (some ⟨b11, 0, none⟩) 1 1]) (fun u14 w13 => ∃ (a15 : Option Addr) (l15 c15 : Nat), u14 = .slice a15 l15 c15 ∧ ∀ n16 :
    Int, n16 = IntKind.i64.wrap (((l15 : Nat) : Int) - 1) → ∃ (I17 : Int → World → Prop) (m17 : Int → World → Nat), I17 n16 w13 ∧ ∀ (n18 : Int) (w19 : World), I17 n18 w19 → (((decide (n18 > n7)) = true → withSome a15 (fun
    d20 => (0 ≤ (IntKind.i64.wrap (n18 - 1)) ∧ (IntKind.i64.wrap (n18 - 1)) < (l15 : Nat)) ∧ ∃ (n21 : Int), w19.cell? (Addr.add d20 ((IntKind.i64.wrap (n18 - 1)).toNat * 1)) = some (.int .u64 n21) ∧ withSome a15 (fun d22
    => (0 ≤ n18 ∧ n18 < (l15 : Nat)) ∧ RoomAt w19 (Addr.add d22 (n18.toNat * 1)) 0 [.int .u64 n21] ∧ ∀ w23, w23 = setCells w19 (Addr.add d22 (n18.toNat * 1)) 0 [.int .u64 n21] → (I17 (IntKind.i64.wrap (n18 - 1)) w23 ∧ m17
    (IntKind.i64.wrap (n18 - 1)) w23 < m17 n18 w19)))) ∧ ((decide (n18 > n7)) = false → withSome a15 (fun d24 => (0 ≤ n7 ∧ n7 < (l15 : Nat)) ∧ RoomAt w19 (Addr.add d24 (n7.toNat * 1)) 0 [.int .u64 k] ∧ ∀ w25, w25 =
    setCells w19 (Addr.add d24 (n7.toNat * 1)) 0 [.int .u64 k] → R (.returned (.slice a15 l15 c15)) w25)))) w12)))) ∧ ((decide (n7 < ((l_n : Nat) : Int))) = false → ∀ (b26 : Nat) (w27 : World), Alloc w8 w27 b26 (.cells
    #[.int .u64 0] 35) → SemW Tryz.prog (Builtin.append_ #[43, 43] 43 #[.slice l l_n l_c, .slice (some ⟨b26, 0, none⟩) 1 1]) (fun u29 w28 => ∃ (a30 : Option Addr) (l30 c30 : Nat), u29 = .slice a30 l30 c30 ∧ ∀ n31 : Int,
    n31 = IntKind.i64.wrap (((l30 : Nat) : Int) - 1) → ∃ (I32 : Int → World → Prop) (m32 : Int → World → Nat), I32 n31 w28 ∧ ∀ (n33 : Int) (w34 : World), I32 n33 w34 → (((decide (n33 > n7)) = true → withSome a30 (fun d35
    => (0 ≤ (IntKind.i64.wrap (n33 - 1)) ∧ (IntKind.i64.wrap (n33 - 1)) < (l30 : Nat)) ∧ ∃ (n36 : Int), w34.cell? (Addr.add d35 ((IntKind.i64.wrap (n33 - 1)).toNat * 1)) = some (.int .u64 n36) ∧ withSome a30 (fun d37 =>
    (0 ≤ n33 ∧ n33 < (l30 : Nat)) ∧ RoomAt w34 (Addr.add d37 (n33.toNat * 1)) 0 [.int .u64 n36] ∧ ∀ w38, w38 = setCells w34 (Addr.add d37 (n33.toNat * 1)) 0 [.int .u64 n36] → (I32 (IntKind.i64.wrap (n33 - 1)) w38 ∧ m32
    (IntKind.i64.wrap (n33 - 1)) w38 < m32 n33 w34)))) ∧ ((decide (n33 > n7)) = false → withSome a30 (fun d39 => (0 ≤ n7 ∧ n7 < (l30 : Nat)) ∧ RoomAt w34 (Addr.add d39 (n7.toNat * 1)) 0 [.int .u64 k] ∧ ∀ w40, w40 =
    setCells w34 (Addr.add d39 (n7.toNat * 1)) 0 [.int .u64 k] → R (.returned (.slice a30 l30 c30)) w40)))) w27))
theorem sx32.ok {l : Option Addr} {l_n l_c : Nat} {k : Int} {R : Ending → World → Prop} {w : World} (h : sx32 l l_n l_c k R w) : CallsW Tryz.prog 32 [.slice l l_n l_c, .int .u64 k] w R :=
  callsW_of mix Tryz.func32 (by kernel_rfl) (by kernel_rfl) (Eq.mpr (by kernel_rfl : denFn Tryz.prog { sem := [36], named := [39], loops := [(2, { slots := [(5, .int .i64)], cells := [] }), (8, { slots := [(6, .int .i64)], cells := [] })], cuts := [(4, { slots := [(5, .int .i64)], cells := [] })] } Tryz.f32 [.slice l l_n l_c, .int .u64 k] R w = sx32 l l_n l_c k R w) h)

/- (*reprise/repriseref06.Source).Keys -/
def sx10 (s : Nat) (R : Ending → World → Prop) (w : World) : Prop :=
  ∀ (b1 : Nat) (w2 : World), Alloc w w2 b1 (.cells #[] 35) → ∃ (I3 : Option Addr → Nat → Nat → Int → World → Prop) (m3 : Option Addr → Nat → Nat → Int → World → Nat), I3 (some ⟨b1, 0, none⟩) 0 0 0 w2 ∧ ∀ (a4 : Option Addr)
    (l4 c4 : Nat) (n5 : Int) (w6 : World), I3 a4 l4 c4 n5 w6 → CallsW Tryz.prog 12 [.pointer (some ⟨s, 0, none⟩)] w6 (RetR R fun u8 w7 => ∃ (n9 : Int), u8 = .int .i64 n9 ∧ (((decide (n5 < n9)) = true → ∃ (I11 : Option Addr
    → Nat → Nat → Int → World → Prop) (m11 : Option Addr → Nat → Nat → Int → World → Nat), I11 a4 l4 c4 0 w7 ∧ ∀ (a12 : Option Addr) (l12 c12 : Nat) (n13 : Int) (w14 : World), I11 a12 l12 c12 n13 w14 → ∃ (a15 : Option
    Addr) (l15 c15 : Nat), w14.cell? ⟨s, 0, none⟩ = some (.slice a15 l15 c15) ∧ withSome a15 (fun d16 => (0 ≤ n5 ∧ n5 < (l15 : Nat)) ∧ ∃ (a17 : Option Addr) (l17 c17 : Nat), w14.cell? (Addr.add d16 (n5.toNat * 1)) = some
    (.slice a17 l17 c17) ∧ (((decide (n13 < ((l17 : Nat) : Int))) = true → ∀ w18, Grew w14 w18 → ∃ (a19 : Option Addr) (l19 c19 : Nat), w18.cell? ⟨s, 2, none⟩ = some (.slice a19 l19 c19) ∧ ∃ (a20 : Option Addr) (l20 c20 :
    Nat), w18.cell? ⟨s, 0, none⟩ = some (.slice a20 l20 c20) ∧ withSome a20 (fun d21 => (0 ≤ n5 ∧ n5 < (l20 : Nat)) ∧ ∃ (a22 : Option Addr) (l22 c22 : Nat), w18.cell? (Addr.add d21 (n5.toNat * 1)) = some (.slice a22 l22
    c22) ∧ withSome a22 (fun d23 => (0 ≤ n13 ∧ n13 < (l22 : Nat)) ∧ ∃ (n24 : Int) (x25 : Nat), CellsAt w18 (Addr.add d23 (n13.toNat * 2)) 0 [.int .u64 n24, .float .f64 x25] ∧ CallsW Tryz.prog 31 [.slice a19 l19 c19, .agg
    #[.int .u64 n24, .float .f64 x25]] w18 (RetR R fun u27 w26 => ∃ (n28 : Int) (b29 : Bool), u27 = .tuple #[.int .u64 n28, .bool b29] ∧ ((b29 = true → CallsW Tryz.prog 32 [.slice a12 l12 c12, .int .u64 n28] w26 (RetR R
    fun u32 w31 => ∃ (a33 : Option Addr) (l33 c33 : Nat), u32 = .slice a33 l33 c33 ∧ (I11 a33 l33 c33 (IntKind.i64.wrap (n13 + 1)) w31 ∧ m11 a33 l33 c33 (IntKind.i64.wrap (n13 + 1)) w31 < m11 a12 l12 c12 n13 w14))) ∧ (b29
    = false → (I11 a12 l12 c12 (IntKind.i64.wrap (n13 + 1)) w26 ∧ m11 a12 l12 c12 (IntKind.i64.wrap (n13 + 1)) w26 < m11 a12 l12 c12 n13 w14))))))) ∧ ((decide (n13 < ((l17 : Nat) : Int))) = false → (I3 a12 l12 c12
    (IntKind.i64.wrap (n5 + 1)) w14 ∧ m3 a12 l12 c12 (IntKind.i64.wrap (n5 + 1)) w14 < m3 a4 l4 c4 n5 w6))))) ∧ ((decide (n5 < n9)) = false → R (.returned (.slice a4 l4 c4)) w7)))
theorem sx10.ok {s : Nat} {R : Ending → World → Prop} {w : World} (h : sx10 s R w) : CallsW Tryz.prog 10 [.pointer (some ⟨s, 0, none⟩)] w R :=
  callsW_of mix Tryz.func10 (by kernel_rfl) (by kernel_rfl) (Eq.mpr (by kernel_rfl : denFn Tryz.prog { draws := [(8, { order := (.cons 0 (.cons 1 (.cons 2 (.cons 3 (.cons 4 (.cons 5 (.cons 6 (.cons 7 (.cons 8 (.cons 9 (.cons 10 (.cons 11 (.cons 12 (.cons 13 (.cons 14 (.cons 15 (.cons 16 (.cons 17 (.cons 18 (.cons 19 .nil)))))))))))))))))))), bars := [14] })], loops := [(6, { slots := [(3, .slice), (5, .int .i64)], cells := [] }), (1003, { slots := [(3, .slice), (4, .int .i64)], cells := [] })] } Tryz.f10 [.pointer (some ⟨s, 0, none⟩)] R w = sx10 s R w) h)

/- (*reprise/repriseref06.Source).Produce -/
def sx25 (d : Nat) (i : Int) (p2_0 : Int) (p2_1 : Nat) (R : Ending → World → Prop) (w : World) : Prop :=
  ∀ w1, Grew w w1 → CallsW Tryz.prog 36 [.pointer (some ⟨d, 0, none⟩), .int .i64 i] w1 (RetR R fun u3 w2 => ∃ (b4 : Bool), u3 = .bool b4 ∧ (((!b4) = true → R (.returned (.int .i64 60)) w2) ∧ ((!b4) = false → ∃ (a6 : Option
    Addr) (l6 c6 : Nat), w2.cell? ⟨d, 0, none⟩ = some (.slice a6 l6 c6) ∧ withSome a6 (fun d7 => (0 ≤ i ∧ i < (l6 : Nat)) ∧ ∃ (a8 : Option Addr) (l8 c8 : Nat), w2.cell? (Addr.add d7 (i.toNat * 1)) = some (.slice a8 l8 c8)
    ∧ (((((l8 : Nat) : Int) == 256) = true → R (.returned (.int .i64 61)) w2) ∧ ((((l8 : Nat) : Int) == 256) = false → ∀ w9, Grew w2 w9 → ∃ (a10 : Option Addr) (l10 c10 : Nat), w9.cell? ⟨d, 2, none⟩ = some (.slice a10 l10
    c10) ∧ CallsW Tryz.prog 31 [.slice a10 l10 c10, .agg #[.int .u64 p2_0, .float .f64 p2_1]] w9 (RetR R fun u12 w11 => ∃ (n13 : Int) (b14 : Bool), u12 = .tuple #[.int .u64 n13, .bool b14] ∧ ((b14 = true → CallsW Tryz.prog
    10 [.pointer (some ⟨d, 0, none⟩)] w11 (RetR R fun u17 w16 => ∃ (a18 : Option Addr) (l18 c18 : Nat), u17 = .slice a18 l18 c18 ∧ (((((l18 : Nat) : Int) == 64) = true → CallsW Tryz.prog 32 [.slice a18 l18 c18, .int .u64
    n13] w16 (RetR R fun u21 w20 => ∃ (a22 : Option Addr) (l22 c22 : Nat), u21 = .slice a22 l22 c22 ∧ (((decide (((l22 : Nat) : Int) > 64)) = true → R (.returned (.int .i64 62)) w20) ∧ ((decide (((l22 : Nat) : Int) > 64))
    = false → ∀ w24, Grew w20 w24 → ∃ (a25 : Option Addr) (l25 c25 : Nat), w24.cell? ⟨d, 0, none⟩ = some (.slice a25 l25 c25) ∧ ∃ (a26 : Option Addr) (l26 c26 : Nat), w24.cell? ⟨d, 0, none⟩ = some (.slice a26 l26 c26) ∧
    withSome a26 (fun d27 => (0 ≤ i ∧ i < (l26 : Nat)) ∧ ∃ (a28 : Option Addr) (l28 c28 : Nat), w24.cell? (Addr.add d27 (i.toNat * 1)) = some (.slice a28 l28 c28) ∧ ∀ (b29 : Nat) (w30 : World), Alloc w24 w30 b29 (.cells
    #[.int .u64 p2_0, .float .f64 p2_1] 38) → SameB w24 w30 [(Addr.add d27 (i.toNat * 1)), ⟨d, 0, none⟩, ⟨d, 0, none⟩] ∧ SemW Tryz.prog (Builtin.append_ #[47, 47] 47 #[.slice a28 l28 c28, .slice (some ⟨b29, 0, none⟩) 1 1])
    (fun u32 w31 => ∃ (a33 : Option Addr) (l33 c33 : Nat), u32 = .slice a33 l33 c33 ∧ SameB w30 w31 [(Addr.add d27 (i.toNat * 1)), ⟨d, 0, none⟩, ⟨d, 0, none⟩] ∧ withSome a25 (fun d34 => (0 ≤ i ∧ i < (l25 : Nat)) ∧ RoomAt
    w31 (Addr.add d34 (i.toNat * 1)) 0 [.slice a33 l33 c33] ∧ ∀ w35, w35 = setCells w31 (Addr.add d34 (i.toNat * 1)) 0 [.slice a33 l33 c33] → R (.returned (.int .i64 0)) w35)) w30))))) ∧ ((((l18 : Nat) : Int) == 64) =
    false → ∀ w36, Grew w16 w36 → ∃ (a37 : Option Addr) (l37 c37 : Nat), w36.cell? ⟨d, 0, none⟩ = some (.slice a37 l37 c37) ∧ ∃ (a38 : Option Addr) (l38 c38 : Nat), w36.cell? ⟨d, 0, none⟩ = some (.slice a38 l38 c38) ∧
    withSome a38 (fun d39 => (0 ≤ i ∧ i < (l38 : Nat)) ∧ ∃ (a40 : Option Addr) (l40 c40 : Nat), w36.cell? (Addr.add d39 (i.toNat * 1)) = some (.slice a40 l40 c40) ∧ ∀ (b41 : Nat) (w42 : World), Alloc w36 w42 b41 (.cells
    #[.int .u64 p2_0, .float .f64 p2_1] 38) → SameB w36 w42 [(Addr.add d39 (i.toNat * 1)), ⟨d, 0, none⟩, ⟨d, 0, none⟩] ∧ SemW Tryz.prog (Builtin.append_ #[47, 47] 47 #[.slice a40 l40 c40, .slice (some ⟨b41, 0, none⟩) 1 1])
    (fun u44 w43 => ∃ (a45 : Option Addr) (l45 c45 : Nat), u44 = .slice a45 l45 c45 ∧ SameB w42 w43 [(Addr.add d39 (i.toNat * 1)), ⟨d, 0, none⟩, ⟨d, 0, none⟩] ∧ withSome a37 (fun d46 => (0 ≤ i ∧ i < (l37 : Nat)) ∧ RoomAt
    w43 (Addr.add d46 (i.toNat * 1)) 0 [.slice a45 l45 c45] ∧ ∀ w47, w47 = setCells w43 (Addr.add d46 (i.toNat * 1)) 0 [.slice a45 l45 c45] → R (.returned (.int .i64 0)) w47)) w42))))) ∧ (b14 = false → ∀ w48, Grew w11 w48
    → ∃ (a49 : Option Addr) (l49 c49 : Nat), w48.cell? ⟨d, 0, none⟩ = some (.slice a49 l49 c49) ∧ ∃ (a50 : Option Addr) (l50 c50 : Nat), w48.cell? ⟨d, 0, none⟩ = some (.slice a50 l50 c50) ∧ withSome a50 (fun d51 => (0 ≤ i
    ∧ i < (l50 : Nat)) ∧ ∃ (a52 : Option Addr) (l52 c52 : Nat), w48.cell? (Addr.add d51 (i.toNat * 1)) = some (.slice a52 l52 c52) ∧ ∀ (b53 : Nat) (w54 : World), Alloc w48 w54 b53 (.cells #[.int .u64 p2_0, .float .f64
    p2_1] 38) → SameB w48 w54 [(Addr.add d51 (i.toNat * 1)), ⟨d, 0, none⟩, ⟨d, 0, none⟩] ∧ SemW Tryz.prog (Builtin.append_ #[47, 47] 47 #[.slice a52 l52 c52, .slice (some ⟨b53, 0, none⟩) 1 1]) (fun u56 w55 => ∃ (a57 :
    Option Addr) (l57 c57 : Nat), u56 = .slice a57 l57 c57 ∧ SameB w54 w55 [(Addr.add d51 (i.toNat * 1)), ⟨d, 0, none⟩, ⟨d, 0, none⟩] ∧ withSome a49 (fun d58 => (0 ≤ i ∧ i < (l49 : Nat)) ∧ RoomAt w55 (Addr.add d58
    (i.toNat * 1)) 0 [.slice a57 l57 c57] ∧ ∀ w59, w59 = setCells w55 (Addr.add d58 (i.toNat * 1)) 0 [.slice a57 l57 c57] → R (.returned (.int .i64 0)) w59)) w54))))))))))
theorem sx25.ok {d : Nat} {i : Int} {p2_0 : Int} {p2_1 : Nat} {R : Ending → World → Prop} {w : World} (h : sx25 d i p2_0 p2_1 R w) : CallsW Tryz.prog 25 [.pointer (some ⟨d, 0, none⟩), .int .i64 i, .agg #[.int .u64 p2_0, .float .f64 p2_1]] w R :=
  callsW_of mix Tryz.func25 (by kernel_rfl) (by kernel_rfl) (Eq.mpr (by kernel_rfl : denFn Tryz.prog { locals := [5], known := [12], sem := [63], draws := [(7, { order := (.cons 0 (.cons 1 (.cons 2 (.cons 3 (.cons 4 (.cons 5 (.cons 6 (.cons 7 (.cons 8 (.cons 9 (.cons 10 .nil))))))))))), bars := [5] }), (13, { order := (.cons 0 (.cons 1 (.cons 2 (.cons 3 (.cons 4 (.cons 5 (.cons 6 (.cons 7 (.cons 8 (.cons 9 (.cons 10 (.cons 11 (.cons 12 (.cons 13 (.cons 14 (.cons 15 (.cons 16 .nil))))))))))))))))), bars := [16] })] } Tryz.f25 [.pointer (some ⟨d, 0, none⟩), .int .i64 i, .agg #[.int .u64 p2_0, .float .f64 p2_1]] R w = sx25 d i p2_0 p2_1 R w) h)


abbrev RSA := RSrcAt 66 47 4 38 53
abbrev RSM := RSrcMoves 66 47 4 38 53
theorem rsD : RSrcD 66 47 4 38 53 := by unfold RSrcD; decide

def RNewS (w : World) (parts : Int) (l : List OpV) (v : Value) (w' : World) : Prop :=
  Grew w w' ∧ (((parts < 1 ∨ 4 < parts) ∧ v = .tuple #[.pointer none, .int .i64 1]) ∨ ((1 ≤ parts ∧ parts ≤ 4) ∧ checkB l = false ∧ v = .tuple #[.pointer none, .int .i64 30]) ∨
    ((1 ≤ parts ∧ parts ≤ 4) ∧ checkB l = true ∧ ∃ x : RSrcX, v = .tuple #[.pointer (some ⟨x.q, 0, none⟩), .int .i64 0] ∧ RSA w' w.heap.size x (srcNew parts.toNat l)))
theorem own_some {α : Type} {w : World} {B : Nat} {e : TypeId} {E : Enc α} {a : Option Addr} {n c k : Nat} {x : α} (h : Own w B e E a n c (List.replicate k x)) (hk : 0 < k) : ∃ g, a = some ⟨g, 0, none⟩ := by
  rcases h.out with ⟨-, h, -, -⟩ | ⟨g, cur, h, -⟩
  · have := congrArg List.length h; simp at this; omega
  · exact ⟨g, h⟩

theorem RNew_ok {parts : Int} {a : Option Addr} {n c : Nat} {l : List OpV} {w : World} (hr : Reads w Enc.op3 (a, n, c) l) (hl : ∀ o ∈ l, o.Fits) :
    CallsW Tryz.prog 6 [.int .i64 parts, .slice a n c] w (Rets (RNewS w parts l)) := by
  refine sx6.ok ?_
  unfold sx6
  have nb : ∀ {x y : World}, SameB x y [] := by intro x y; simp [SameB]
  refine ⟨fun h => ⟨_, rfl, Grew.refl _, .inl ⟨.inl (by simpa using h), rfl⟩⟩, fun h1 => ⟨fun h => ⟨_, rfl, Grew.refl _, .inl ⟨.inr (by simpa using h), rfl⟩⟩, fun h2 => ?_⟩⟩
  simp only [decide_eq_false_iff_not] at h1 h2
  refine (RCheck_ok hr).use fun v w1 ⟨hv, hg1⟩ => ?_
  subst hv
  cases hc : checkB l
  · exact ⟨_, rfl, fun _ => ⟨_, rfl, hg1, .inr (.inl ⟨⟨by omega, by omega⟩, hc, rfl⟩)⟩, fun h => (by simp at h)⟩
  refine ⟨_, rfl, fun h => (by simp at h), fun _ b5 w6 hal6 => ?_⟩
  have hlen := (checkB_step hc).1
  obtain ⟨k, rfl⟩ : ∃ k : Nat, parts = k := ⟨parts.toNat, by omega⟩
  have ho6 := Own.alloc (E := Enc.op3) (l := []) hal6 hg1.size rfl (by decide)
  have hr6 := hr.grew (hg1.trans hal6.grew)
  refine append_sl elOp ho6 hr6.1 hr6.2.1 hr6.2.2.1 (hg1.trans hal6.grew).size (by simp [maxLen]; omega) (by simp; omega) ?_
  rintro v w7 ⟨a9, l9, c9, rfl, ho7, hu7, -⟩
  have hg7 : Grew w w7 := (hg1.trans hal6.grew).then_own hu7 fun b hb => (ho6.blk hb).1
  refine ⟨_, _, _, rfl, fun w10 hg10 => ?_⟩
  have hg10 := hg7.trans hg10
  have ho10 := ho7.grew (show Grew w7 w10 by assumption)
  have mkL : ∀ {w1 : World} {K : Value → World → Prop}, (∀ v w', Fresh w1 47 Enc.slice (List.replicate k (none, 0, 0)) v w' → K v w') → SemW Tryz.prog (Instr.makeSlice 63 (.int .i64 (k : Int)) (.int .i64 (k : Int))) K w1 := fun hK =>
    make_own (E := Enc.slice) (x := (none, 0, 0)) (z := .slice none 0 0) (bytes := 24) (by kernel_rfl) (by kernel_rfl) rfl (by omega) (by simp [maxLen]; omega) hK
  have mkB : ∀ {w1 : World} {K : Value → World → Prop}, (∀ v w', Fresh w1 4 Enc.boolE (List.replicate k false) v w' → K v w') → SemW Tryz.prog (Instr.makeSlice 64 (.int .i64 (k : Int)) (.int .i64 (k : Int))) K w1 := fun hK =>
    make_own (E := Enc.boolE) (x := false) (z := .bool false) (bytes := 1) (by kernel_rfl) (by kernel_rfl) rfl (by omega) (by simp [maxLen]; omega) hK
  have fin : ∀ {w' w'' : World} {a8 a11 : Option Addr} {l8 c8 l11 c11 b16 : Nat}, Grew w w' → Own w' w.heap.size 47 Enc.slice a8 l8 c8 (List.replicate k (none, 0, 0)) → Own w' w.heap.size 4 Enc.boolE a11 l11 c11 (List.replicate k false) → Own w' w.heap.size 53 Enc.op3 a9 l9 c9 l →
      Alloc w' w'' b16 (.cells [.slice a8 l8 c8, .slice a11 l11 c11, .slice a9 l9 c9].toArray 66) → Rets (RNewS w k l) (.returned (.tuple #[.pointer (some ⟨b16, 0, none⟩), .int .i64 0])) w'' := by
    intro w' w'' a8 a11 l8 c8 l11 c11 b16 hg ho8 ho11 ho9 hal
    have hl8 : l8 = k := by rw [ho8.len]; simp
    have hl11 : l11 = k := by rw [ho11.len]; simp
    subst hl8; subst hl11
    obtain ⟨g, rfl⟩ := own_some ho8 (by omega)
    obtain ⟨g2, rfl⟩ := own_some ho11 (by omega)
    refine ⟨_, rfl, hg.trans hal.grew, .inr (.inr ⟨⟨by omega, by omega⟩, hc, ⟨b16, g, g2, c8, c11, (a9, l9, c9), List.replicate l11 (none, 0, 0)⟩, rfl, ?_⟩)⟩
    refine ⟨?_, ?_, ?_, by simp [srcNew], ?_, ?_, ho9.grew hal.grew, Nat.le_trans hg.size hal.new, new_fits hl hc (by omega) (by omega), keysOk_new _ _⟩
    · simpa [Row] using hal.at_
    · simpa using ho8.grew hal.grew
    · simpa [srcNew] using ho11.grew hal.grew
    · intro i s hs
      obtain ⟨rfl, hi⟩ := replicate_get hs
      exact ⟨([], false), by simp [srcNew, hi], Own.nil _ _ _ _⟩
    · intro i j s t hij hs ht b hb
      obtain ⟨rfl, -⟩ := replicate_get hs
      exact (Blk.none hb).elim
  have s10 := hg10.size
  refine ⟨mkL fun v w11 ⟨a8, l8, c8, hv, ho8, hg8⟩ => ?_, mkB fun v w11 ⟨a8, l8, c8, hv, ho8, hg8⟩ => ?_⟩
  · subst hv
    have hg11 := hg10.trans hg8
    refine ⟨_, _, _, rfl, nb, mkB fun v w14 ⟨a11, l11, c11, hv, ho11, hg14⟩ => ?_⟩
    subst hv
    refine ⟨_, _, _, rfl, nb, fun b17 w18 hal18 => ⟨nb, ?_⟩⟩
    exact fin (hg11.trans hg14) ((ho8.grew hg14).base s10) (ho11.base hg11.size) ((ho10.grew hg8).grew hg14) hal18
  · subst hv
    have hg11 := hg10.trans hg8
    refine ⟨_, _, _, rfl, nb, mkL fun v w14 ⟨a11, l11, c11, hv, ho11, hg14⟩ => ?_⟩
    subst hv
    refine ⟨_, _, _, rfl, nb, fun b17 w18 hal18 => ⟨nb, ?_⟩⟩
    exact fin (hg11.trans hg14) (ho11.base hg11.size) ((ho8.grew hg14).base s10) ((ho10.grew hg8).grew hg14) hal18

theorem rc0 {w : World} {B : Nat} {x : RSrcX} {v : SrcV} (h : RSA w B x v) : w.cell? ⟨x.q, 0, none⟩ = some (.slice (some ⟨x.lb, 0, none⟩) x.hs.length x.lc) := by rw [h.row.cell]; rfl
theorem rc1 {w : World} {B : Nat} {x : RSrcX} {v : SrcV} (h : RSA w B x v) : w.cell? ⟨x.q, 1, none⟩ = some (.slice (some ⟨x.ob, 0, none⟩) x.hs.length x.oc) := by rw [h.row.cell]; rfl
theorem rc2 {w : World} {B : Nat} {x : RSrcX} {v : SrcV} (h : RSA w B x v) : w.cell? ⟨x.q, 2, none⟩ = some (.slice x.la.1 x.la.2.1 x.la.2.2) := by rw [h.row.cell]; rfl
theorem has_ok {w : World} {B : Nat} {x : RSrcX} {v : SrcV} {p : Int} (h : RSA w B x v) :
    CallsW Tryz.prog 36 [.pointer (some ⟨x.q, 0, none⟩), .int .i64 p] w (Rets fun u w' => w' = w ∧ u = .bool (v.getP p).isSome) := by
  refine sx36.ok ?_
  unfold sx36
  have hl := h.len
  refine ⟨fun h0 => ⟨_, _, _, by rw [h.row.cell]; rfl, _, rfl, rfl, ?_⟩, fun h0 => ⟨_, rfl, rfl, ?_⟩⟩
  · simp only [decide_eq_true_eq] at h0
    cases hp : v.getP p with
    | none => have := getP_none hp; rw [decide_eq_false (by omega)]; rfl
    | some q => have := getP_some hp; rw [decide_eq_true (by omega)]; rfl
  · simp only [decide_eq_false_iff_not] at h0
    cases hp : v.getP p with
    | none => rfl
    | some q => have := getP_some hp; omega
theorem RParts_ok {w : World} {B : Nat} {x : RSrcX} {v : SrcV} (h : RSA w B x v) :
    CallsW Tryz.prog 12 [.pointer (some ⟨x.q, 0, none⟩)] w (Rets fun u w' => u = .int .i64 (v.parts.length : Int) ∧ w' = w) := by
  refine sx12.ok ?_
  unfold sx12
  exact ⟨_, _, _, by rw [h.row.cell]; rfl, _, rfl, by rw [h.len], rfl⟩
theorem RUp_ok {w : World} {B : Nat} {x : RSrcX} {v : SrcV} {p : Int} (h : RSA w B x v) :
    CallsW Tryz.prog 17 [.pointer (some ⟨x.q, 0, none⟩), .int .i64 p] w (Rets fun u w' => u = .bool (v.up p) ∧ w' = w) := by
  refine sx17.ok ?_
  unfold sx17
  refine (has_ok h).use fun u w1 ⟨hw, hv⟩ => ?_
  subst hw; subst hv
  unfold SrcV.up
  cases hp : v.getP p with
  | none => exact ⟨_, rfl, fun hh => (by cases hh), fun _ => ⟨_, rfl, rfl, rfl⟩⟩
  | some q =>
    obtain ⟨s, hs, ho, hc0, hc1, hlt⟩ := h.part hp
    obtain ⟨hp0, -, -⟩ := getP_some hp
    refine ⟨_, rfl, fun _ => ⟨_, _, _, rc1 h, ⟨hp0, hlt⟩, q.2, ?_, _, rfl, rfl, rfl⟩, fun hh => (by cases hh)⟩
    simp only [add_mk, Nat.mul_one, Nat.zero_add]; exact hc1
theorem RLen_ok {w : World} {B : Nat} {x : RSrcX} {v : SrcV} {p : Int} (h : RSA w B x v) :
    CallsW Tryz.prog 19 [.pointer (some ⟨x.q, 0, none⟩), .int .i64 p] w (Rets fun u w' => u = .int .i64 (v.len p) ∧ w' = w) := by
  refine sx19.ok ?_
  unfold sx19
  refine (has_ok h).use fun u w1 ⟨hw, hv⟩ => ?_
  subst hw; subst hv
  unfold SrcV.len
  cases hp : v.getP p with
  | none => exact ⟨_, rfl, fun _ => ⟨_, rfl, rfl, rfl⟩, fun hh => (by cases hh)⟩
  | some q =>
    obtain ⟨s, hs, ho, hc0, hc1, hlt⟩ := h.part hp
    obtain ⟨hp0, -, -⟩ := getP_some hp
    refine ⟨_, rfl, fun hh => (by cases hh), fun _ => ⟨_, _, _, rc0 h, ⟨hp0, hlt⟩, s.1, s.2.1, s.2.2, ?_, _, rfl, by rw [ho.len], rfl⟩⟩
    simp only [add_mk, Nat.mul_one, Nat.zero_add]; exact hc0
theorem RSwitch_ok {w : World} {B : Nat} {x : RSrcX} {v : SrcV} {p : Int} {on : Bool} (h : RSA w B x v) :
    CallsW Tryz.prog 27 [.pointer (some ⟨x.q, 0, none⟩), .int .i64 p, .bool on] w (Rets fun u w' => u = .int .i64 (v.switch p on).2 ∧ RSM w B x w' (v.switch p on).1) := by
  refine sx27.ok ?_
  unfold sx27
  refine (has_ok h).use fun u w1 ⟨hw, hv⟩ => ?_
  subst hw; subst hv
  have hks := switch_keysOk (p := p) (on := on) h.keys
  have hfs := switch_fits (p := p) (on := on) h.fits
  unfold SrcV.switch at hks hfs ⊢
  cases hp : v.getP p with
  | none => exact ⟨_, rfl, fun _ => ⟨_, rfl, rfl, RSrcMoves.grew h (Grew.refl _)⟩, fun hh => (by cases hh)⟩
  | some q =>
    rw [hp] at hks hfs
    obtain ⟨s, hs, ho, hc0, hc1, hlt⟩ := h.part hp
    obtain ⟨hp0, -, -⟩ := getP_some hp
    have key := h.setOff rsD hp (off := !on) hfs hks
    refine ⟨_, rfl, fun hh => (by cases hh), fun _ => ⟨_, _, _, rc1 h, ⟨hp0, hlt⟩, ?_⟩⟩
    simp only [add_mk, Nat.mul_one, Nat.zero_add]
    exact ⟨key.1, fun w7 h7 => ⟨_, rfl, rfl, key.2 w7 h7⟩⟩
theorem RLog_ok {w : World} {B : Nat} {x : RSrcX} {v : SrcV} {p : Int} (h : RSA w B x v) :
    CallsW Tryz.prog 15 [.pointer (some ⟨x.q, 0, none⟩), .int .i64 p] w (Rets (Fresh w 38 Enc.rcd (v.log p))) := by
  refine sx15.ok ?_
  unfold sx15
  intro b1 w2 hal2
  have ho2 := Own.alloc (E := Enc.rcd) (l := []) hal2 (Nat.le_refl _) rfl (by decide)
  have h2 := h.grew hal2.grew
  refine (has_ok h2).use fun u w1 ⟨hw, hv⟩ => ?_
  subst hw; subst hv
  unfold SrcV.log
  cases hp : v.getP p with
  | none => exact ⟨_, rfl, fun hh => (by cases hh), fun _ => ⟨_, rfl, _, _, _, rfl, ho2, hal2.grew⟩⟩
  | some q =>
    obtain ⟨s, hs, ho, hc0, hc1, hlt⟩ := h2.part hp
    obtain ⟨hp0, -, hpq⟩ := getP_some hp
    have hql := h.fits.logs q (List.mem_of_getElem? hpq)
    refine ⟨_, rfl, fun _ => ⟨_, _, _, rc0 h2, ⟨hp0, hlt⟩, s.1, s.2.1, s.2.2, ?_, ?_⟩, fun hh => (by cases hh)⟩
    · simp only [add_mk, Nat.mul_one, Nat.zero_add]; exact hc0
    · have hr2 := ho.reads
      refine append_sl elRec ho2 hr2.1 hr2.2.1 hr2.2.2.1 hal2.grew.size (by simp [maxLen]; omega) (by simp; omega) ?_
      rintro u w3 ⟨a5, l5, c5, rfl, ho5, hu5, -⟩
      exact ⟨a5, l5, c5, rfl, _, rfl, a5, l5, c5, rfl, ho5, hal2.grew.then_own hu5 fun b hb => (ho2.blk hb).1⟩
theorem RRead_ok {w : World} {B : Nat} {x : RSrcX} {v : SrcV} {p fr most : Int} (h : RSA w B x v) :
    CallsW Tryz.prog 28 [.pointer (some ⟨x.q, 0, none⟩), .int .i64 p, .int .i64 fr, .int .i64 most] w (Rets fun u w' => ∃ a n c, u = .tuple #[.slice a n c, .int .i64 (v.read p fr most).2] ∧ Own w' w.heap.size 38 Enc.rcd a n c (v.read p fr most).1 ∧ Grew w w') := by
  refine sx28.ok ?_
  unfold sx28
  refine (has_ok h).use fun u w1 ⟨hw, hv⟩ => ?_
  subst hw; subst hv
  unfold SrcV.read
  have nil : ∀ (e : Int) (w' : World), w' = w1 → Rets (fun u w' => ∃ a n c, u = .tuple #[.slice a n c, .int .i64 e] ∧ Own w' w1.heap.size 38 Enc.rcd a n c [] ∧ Grew w1 w') (.returned (.tuple #[.slice none 0 0, .int .i64 e])) w' := by
    rintro e w' rfl
    exact ⟨_, rfl, none, 0, 0, rfl, Own.nil _ _ _ _, Grew.refl _⟩
  cases hp : v.getP p with
  | none => exact ⟨_, rfl, fun _ => nil _ _ rfl, fun hh => (by cases hh)⟩
  | some q =>
    obtain ⟨s, hs, ho, hc0, hc1, hlt⟩ := h.part hp
    obtain ⟨hp0, -, hpq⟩ := getP_some hp
    have hql := h.fits.logs q (List.mem_of_getElem? hpq)
    have hsl : s.2.1 = q.1.length := ho.len
    have ecell : ∀ {w' : World}, w'.cell? ⟨x.lb, p.toNat, none⟩ = some (.slice s.1 s.2.1 s.2.2) → w'.cell? (Addr.add (⟨x.lb, 0, none⟩ : Addr) (p.toNat * 1)) = some (.slice s.1 s.2.1 s.2.2) := fun hh => by simp only [add_mk, Nat.mul_one, Nat.zero_add]; exact hh
    refine ⟨_, rfl, fun hh => (by cases hh), fun _ => ⟨_, _, _, rc0 h, ⟨hp0, hlt⟩, s.1, s.2.1, s.2.2, ecell hc0, fun hA => ?_, fun hA => ⟨fun hB => ?_, fun hB => ⟨fun hC => ?_, fun hC => ⟨_, _, _, rc1 h, ⟨hp0, hlt⟩, q.2, ?_, fun hD => ?_, fun hD b11 w12 hal12 => ?_⟩⟩⟩⟩⟩
    all_goals simp only [decide_eq_true_eq, decide_eq_false_iff_not, gt_iff_lt] at *
    · rw [if_pos (.inl hA)]; exact nil _ _ rfl
    · rw [if_pos (.inr (.inl (by omega)))]; exact nil _ _ rfl
    · rw [if_pos (.inr (.inr hC))]; exact nil _ _ rfl
    · simp only [add_mk, Nat.mul_one, Nat.zero_add]; exact hc1
    · rw [if_neg (by omega), if_pos hD]; exact nil _ _ rfl
    rw [if_neg (by omega), if_neg (by rw [hD]; decide)]
    have ho12 := Own.alloc (E := Enc.rcd) (l := []) hal12 (Nat.le_refl _) rfl (by decide)
    obtain ⟨f, rfl⟩ : ∃ f : Nat, fr = f := ⟨fr.toNat, by omega⟩
    obtain ⟨m, rfl⟩ : ∃ m : Nat, most = m := ⟨most.toNat, by omega⟩
    simp only [Int.toNat_natCast]
    refine ⟨fun a l c i w' => ∃ j : Nat, i = ((f + j : Nat) : Int) ∧ f + j ≤ q.1.length ∧ j ≤ m ∧ Own w' w1.heap.size 38 Enc.rcd a l c ((q.1.drop f).take j) ∧ Grew w1 w', fun _ _ _ i _ => q.1.length - i.toNat, ⟨0, by simp, by omega, by omega, by simpa using ho12, hal12.grew⟩, ?_⟩
    rintro a l c i w16 ⟨j, rfl, hj, hjm, ho16, hg16⟩
    have hl16 := ho16.len
    rw [List.length_take, List.length_drop] at hl16
    have done : (j = m ∨ f + j = q.1.length) → Rets (fun u w' => ∃ a n c, u = .tuple #[.slice a n c, .int .i64 0] ∧ Own w' w1.heap.size 38 Enc.rcd a n c ((q.1.drop f).take m) ∧ Grew w1 w') (.returned (.tuple #[.slice a l c, .int .i64 0])) w16 := by
      intro hh
      have e : (q.1.drop f).take j = (q.1.drop f).take m := by
        rcases hh with rfl | hh
        · rfl
        · rw [List.take_of_length_le (by rw [List.length_drop]; omega), List.take_of_length_le (by rw [List.length_drop]; omega)]
      rw [e] at ho16
      exact ⟨_, rfl, a, l, c, rfl, ho16, hg16⟩
    refine ⟨fun hlt1 => ⟨fun hlt2 => ?_, fun hge2 => done ?_⟩, fun hge1 => done ?_⟩
    all_goals (try simp only [decide_eq_true_eq, decide_eq_false_iff_not] at *)
    · have h16 := h.grew hg16
      obtain ⟨s2, hs2, ho2, hc02, -, -⟩ := h16.part hp
      rw [hs] at hs2; cases hs2
      obtain ⟨d, r, hd, hr, hcc⟩ := ho2.reads.at0 (k := f + j) (by omega)
      refine ⟨_, _, _, rc0 h16, ⟨hp0, hlt⟩, s.1, s.2.1, s.2.2, ecell hc02, ?_⟩
      rw [hd, withSome]
      refine ⟨⟨by omega, by omega⟩, r.key, r.val, hcc, fun b23 w24 hal24 => ?_⟩
      refine append_new (l2 := [r]) elRec ho16 hal24 rfl rfl hg16.size (by simp [maxLen]; omega) (by simp; omega) ?_
      rintro u w25 ⟨a27, l27, c27, rfl, ho27, hu27, -⟩
      have hw : IntKind.i64.wrap (((f + j : Nat) : Int) + 1) = ((f + (j + 1) : Nat) : Int) := by rw [IntKind.wrap_i64]; omega
      rw [hw]
      refine ⟨_, _, _, rfl, ⟨j + 1, rfl, by omega, by omega, ?_, hg16.then_own hu27 fun b hb => (ho16.blk hb).1⟩, ?_⟩
      · have e : (q.1.drop f).take (j + 1) = (q.1.drop f).take j ++ [r] := take_snoc (by rw [List.getElem?_drop]; exact hr)
        rw [e]; exact ho27
      · show q.1.length - (((f + (j + 1) : Nat) : Int)).toNat < q.1.length - (((f + j : Nat) : Int)).toNat
        omega
    · omega
    · omega
end Go.Proofs.YtifhpmmdfjmppaaGreat
