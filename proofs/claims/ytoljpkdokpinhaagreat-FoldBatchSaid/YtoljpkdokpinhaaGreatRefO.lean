/- What the reference's pipelines hand back. Conditions: none. -/
import Derived.Test.YtoljpkdokpinhaaGreatProg
import Derived.Test.YtoljpkdokpinhaaGreatRefF
import Derived.Test.YtoljpkdokpinhaaGreatOps
namespace Go.Proofs.YtoljpkdokpinhaaGreat
open Go.Sx
set_option maxRecDepth 100000
set_option linter.unusedVariables false
set_option linter.unusedSimpArgs false
/- reprise/repriseref03.step -/
def sx37 (o_0 : Int) (o_1 : Int) (o_2 : Nat) (R : Ending → World → Prop) (w : World) : Prop :=
  ∀ w1, Grew w w1 → ∃ (J2 : Bool → World → Prop), ((((o_0 == 1) = true → J2 (o_0 == 1) w1) ∧ ((o_0 == 1) = false → (((o_0 == 2) = true → J2 (o_0 == 2) w1) ∧ ((o_0 == 2) = false → (((o_0 == 3) = true → J2 (o_0 == 3) w1) ∧
    ((o_0 == 3) = false → (((o_0 == 4) = true → J2 (o_0 == 4) w1) ∧ ((o_0 == 4) = false → (((o_0 == 5) = true → J2 (o_0 == 5) w1) ∧ ((o_0 == 5) = false → (((o_0 == 6) = true → J2 (o_0 == 6) w1) ∧ ((o_0 == 6) = false →
    (((o_0 == 8) = true → J2 (o_0 == 8) w1) ∧ ((o_0 == 8) = false → (((o_0 == 9) = true → J2 (o_0 == 9) w1) ∧ ((o_0 == 9) = false → (((o_0 == 10) = true → J2 (o_0 == 10) w1) ∧ ((o_0 == 10) = false → J2 (o_0 == 12)
    w1))))))))))))))))))) ∧ ∀ (b3 : Bool) (w4 : World), J2 b3 w4 → ((b3 = true → R (.returned (.bool true)) w4) ∧ (b3 = false → (((o_0 == 7) = true → (((decide (o_1 ≥ (-2200))) = true → R (.returned (.bool (decide (o_1 ≤
    2200)))) w4) ∧ ((decide (o_1 ≥ (-2200))) = false → R (.returned (.bool false)) w4))) ∧ ((o_0 == 7) = false → (((o_0 == 11) = true → R (.returned (.bool (decide (o_1 ≥ 1)))) w4) ∧ ((o_0 == 11) = false → R (.returned
    (.bool false)) w4))))))
theorem sx37.ok {o_0 : Int} {o_1 : Int} {o_2 : Nat} {R : Ending → World → Prop} {w : World} (h : sx37 o_0 o_1 o_2 R w) : CallsW Tryz.prog 37 [.agg #[.int .i64 o_0, .int .i64 o_1, .float .f64 o_2]] w R :=
  callsW_of mix Tryz.func37 (by kernel_rfl) (by kernel_rfl) (Eq.mpr (by kernel_rfl : denFn Tryz.prog { locals := [1], cuts := [(12, { slots := [(5, .bool)], cells := [] })] } Tryz.f37 [.agg #[.int .i64 o_0, .int .i64 o_1, .float .f64 o_2]] R w = sx37 o_0 o_1 o_2 R w) h)

/- reprise/repriseref03.Check -/
def sx20 (list : Option Addr) (list_n list_c : Nat) (R : Ending → World → Prop) (w : World) : Prop :=
  (((decide (((list_n : Nat) : Int) > 8)) = true → R (.returned (.int .i64 30)) w) ∧ ((decide (((list_n : Nat) : Int) > 8)) = false → ∃ (I1 : Int → World → Prop) (m1 : Int → World → Nat), I1 0 w ∧ ∀ (n2 : Int) (w3 : World),
    I1 n2 w3 → (((decide (n2 < ((list_n : Nat) : Int))) = true → withSome list (fun d4 => (0 ≤ n2 ∧ n2 < (list_n : Nat)) ∧ ∃ (n5 : Int) (n6 : Int) (x7 : Nat), CellsAt w3 (Addr.add d4 (n2.toNat * 3)) 0 [.int .i64 n5, .int
    .i64 n6, .float .f64 x7] ∧ CallsW Tryz.prog 37 [.agg #[.int .i64 n5, .int .i64 n6, .float .f64 x7]] w3 (RetR R fun u9 w8 => ∃ (b10 : Bool), u9 = .bool b10 ∧ (((!b10) = true → R (.returned (.int .i64 30)) w8) ∧ ((!b10)
    = false → (I1 (IntKind.i64.wrap (n2 + 1)) w8 ∧ m1 (IntKind.i64.wrap (n2 + 1)) w8 < m1 n2 w3)))))) ∧ ((decide (n2 < ((list_n : Nat) : Int))) = false → R (.returned (.int .i64 0)) w3))))
theorem sx20.ok {list : Option Addr} {list_n list_c : Nat} {R : Ending → World → Prop} {w : World} (h : sx20 list list_n list_c R w) : CallsW Tryz.prog 20 [.slice list list_n list_c] w R :=
  callsW_of mix Tryz.func20 (by kernel_rfl) (by kernel_rfl) (Eq.mpr (by kernel_rfl : denFn Tryz.prog { loops := [(4, { slots := [(3, .int .i64)], cells := [] })] } Tryz.f20 [.slice list list_n list_c] R w = sx20 list list_n list_c R w) h)

/- reprise/repriseref03.turned -/
def sx53 (x : Nat) (R : Ending → World → Prop) (w : World) : Prop :=
  CallsW Tryz.prog 44 [.float .f64 x] w (RetR R fun u2 w1 => ∃ (n3 : Int), u2 = .int .u64 n3 ∧ ∀ n5 : Int, n5 = Go.bits .xor .u64 n3 9223372036854775808 → CallsW Tryz.prog 52 [.int .u64 n5] w1 (RetR R fun u7 w6 => ∃ (x8 :
    Nat), u7 = .float .f64 x8 ∧ R (.returned (.float .f64 x8)) w6))
theorem sx53.ok {x : Nat} {R : Ending → World → Prop} {w : World} (h : sx53 x R w) : CallsW Tryz.prog 53 [.float .f64 x] w R :=
  callsW_of mix Tryz.func53 (by kernel_rfl) (by kernel_rfl) (Eq.mpr (by kernel_rfl : denFn Tryz.prog { named := [5] } Tryz.f53 [.float .f64 x] R w = sx53 x R w) h)

/- reprise/repriseref03.sized -/
def sx54 (x : Nat) (R : Ending → World → Prop) (w : World) : Prop :=
  CallsW Tryz.prog 44 [.float .f64 x] w (RetR R fun u2 w1 => ∃ (n3 : Int), u2 = .int .u64 n3 ∧ ∀ n5 : Int, n5 = Go.bits .andNot .u64 n3 9223372036854775808 → CallsW Tryz.prog 52 [.int .u64 n5] w1 (RetR R fun u7 w6 => ∃ (x8 :
    Nat), u7 = .float .f64 x8 ∧ R (.returned (.float .f64 x8)) w6))
theorem sx54.ok {x : Nat} {R : Ending → World → Prop} {w : World} (h : sx54 x R w) : CallsW Tryz.prog 54 [.float .f64 x] w R :=
  callsW_of mix Tryz.func54 (by kernel_rfl) (by kernel_rfl) (Eq.mpr (by kernel_rfl : denFn Tryz.prog { named := [5] } Tryz.f54 [.float .f64 x] R w = sx54 x R w) h)

/- reprise/repriseref03.per -/
def sx58 (n : Int) (w1 : Int) (R : Ending → World → Prop) (w : World) : Prop :=
  (((w1 == (-1)) = true → R (.returned (.int .i64 (IntKind.i64.wrap (0 - n)))) w) ∧ ((w1 == (-1)) = false → ((w1 = 0 → R (.panicked (divPanic Tryz.prog)) w) ∧ (w1 ≠ 0 → ∀ n1 : Int, n1 = IntKind.i64.wrap (Int.tdiv n w1) → R
    (.returned (.int .i64 n1)) w))))
theorem sx58.ok {n : Int} {w1 : Int} {R : Ending → World → Prop} {w : World} (h : sx58 n w1 R w) : CallsW Tryz.prog 58 [.int .i64 n, .int .i64 w1] w R :=
  callsW_of mix Tryz.func58 (by kernel_rfl) (by kernel_rfl) (Eq.mpr (by kernel_rfl : denFn Tryz.prog { named := [11] } Tryz.f58 [.int .i64 n, .int .i64 w1] R w = sx58 n w1 R w) h)

/- reprise/repriseref03.side -/
def sx59 (x : Nat) (R : Ending → World → Prop) (w : World) : Prop :=
  ∃ (b1 : Bool), PureTo Tryz.prog (eqS .lss 31 (.tmp 4) (.const (.float .f64 0)) (.float .f64 x) (.float .f64 0)) (.bool b1) ∧ ((b1 = true → R (.returned (.int .u64 0)) w) ∧ (b1 = false → ∃ (b2 : Bool), PureTo Tryz.prog (eqS
    .gtr 31 (.tmp 7) (.const (.float .f64 0)) (.float .f64 x) (.float .f64 0)) (.bool b2) ∧ ((b2 = true → R (.returned (.int .u64 2)) w) ∧ (b2 = false → ∃ (b3 : Bool), PureTo Tryz.prog (eqS .eql 31 (.tmp 10) (.const
    (.float .f64 0)) (.float .f64 x) (.float .f64 0)) (.bool b3) ∧ ((b3 = true → R (.returned (.int .u64 1)) w) ∧ (b3 = false → R (.returned (.int .u64 3)) w))))))
theorem sx59.ok {x : Nat} {R : Ending → World → Prop} {w : World} (h : sx59 x R w) : CallsW Tryz.prog 59 [.float .f64 x] w R :=
  callsW_of mix Tryz.func59 (by kernel_rfl) (by kernel_rfl) (Eq.mpr (by kernel_rfl : denFn Tryz.prog { pureTo := [5, 8, 11] } Tryz.f59 [.float .f64 x] R w = sx59 x R w) h)

/- reprise/repriseref03.One -/
def sx39 (d_0 : Int) (d_1 : Int) (d_2 : Nat) (i_0 : Int) (i_1 : Nat) (R : Ending → World → Prop) (w : World) : Prop :=
  ∀ w1, Grew w w1 → ∀ w2, Grew w1 w2 → ∀ w3, Grew w2 w3 → CallsW Tryz.prog 37 [.agg #[.int .i64 d_0, .int .i64 d_1, .float .f64 d_2]] w3 (RetR R fun u5 w4 => ∃ (b6 : Bool), u5 = .bool b6 ∧ (((!b6) = true → R (.returned
    (.tuple #[.agg #[.int .u64 0, .float .f64 0], .int .i64 0])) w4) ∧ ((!b6) = false → CallsW Tryz.prog 38 [.float .f64 i_1] w4 (RetR R fun u9 w8 => ∃ (x10 : Nat), u9 = .float .f64 x10 ∧ ∃ (J12 : Nat → Int → Int → World →
    Prop), ((((d_0 == 1) = true → ∃ (b13 : Bool), PureTo Tryz.prog (eqS .lss 31 (.tmp 23) (.tmp 25) (.float .f64 x10) (.float .f64 d_2)) (.bool b13) ∧ (((!b13) = true → J12 x10 i_0 2 w8) ∧ ((!b13) = false → J12 x10 i_0 1
    w8))) ∧ ((d_0 == 1) = false → (((d_0 == 2) = true → ∃ (b14 : Bool), PureTo Tryz.prog (eqS .gtr 31 (.tmp 30) (.tmp 32) (.float .f64 x10) (.float .f64 d_2)) (.bool b14) ∧ (((!b14) = true → J12 x10 i_0 2 w8) ∧ ((!b14) =
    false → J12 x10 i_0 1 w8))) ∧ ((d_0 == 2) = false → (((d_0 == 3) = true → ∃ (b15 : Bool), PureTo Tryz.prog (eqS .neq 31 (.tmp 37) (.tmp 38) (.float .f64 x10) (.float .f64 x10)) (.bool b15) ∧ ((b15 = true → J12 x10 i_0
    2 w8) ∧ (b15 = false → J12 x10 i_0 1 w8))) ∧ ((d_0 == 3) = false → (((d_0 == 4) = true → CallsW Tryz.prog 53 [.float .f64 x10] w8 (RetR R fun u17 w16 => ∃ (x18 : Nat), u17 = .float .f64 x18 ∧ J12 x18 i_0 1 w16)) ∧
    ((d_0 == 4) = false → (((d_0 == 5) = true → CallsW Tryz.prog 54 [.float .f64 x10] w8 (RetR R fun u21 w20 => ∃ (x22 : Nat), u21 = .float .f64 x22 ∧ J12 x22 i_0 1 w20)) ∧ ((d_0 == 5) = false → (((d_0 == 6) = true →
    CallsW Tryz.prog 55 [.float .f64 x10] w8 (RetR R fun u25 w24 => ∃ (x26 : Nat), u25 = .float .f64 x26 ∧ J12 x26 i_0 1 w24)) ∧ ((d_0 == 6) = false → (((d_0 == 7) = true → CallsW Tryz.prog 56 [.float .f64 x10, .int .i64
    d_1] w8 (RetR R fun u29 w28 => ∃ (x30 : Nat), u29 = .float .f64 x30 ∧ J12 x30 i_0 1 w28)) ∧ ((d_0 == 7) = false → (((d_0 == 8) = true → SemW Tryz.prog (eqS .quo 31 (.const (.float .f64 4607182418800017408)) (.tmp 60)
    (.float .f64 4607182418800017408) (.float .f64 x10)) (fun u33 w32 => ∃ (x34 : Nat), u33 = .float .f64 x34 ∧ J12 x34 i_0 1 w32) w8) ∧ ((d_0 == 8) = false → (((d_0 == 9) = true → SemW Tryz.prog (eqS .sub 31 (.tmp 64)
    (.tmp 65) (.float .f64 x10) (.float .f64 x10)) (fun u36 w35 => ∃ (x37 : Nat), u36 = .float .f64 x37 ∧ ∃ (b38 : Bool), PureTo Tryz.prog (eqS .neq 31 (.tmp 66) (.const (.float .f64 0)) (.float .f64 x37) (.float .f64 0))
    (.bool b38) ∧ ((b38 = true → J12 x10 i_0 3 w35) ∧ (b38 = false → J12 x10 i_0 1 w35))) w8) ∧ ((d_0 == 9) = false → (((d_0 == 10) = true → CallsW Tryz.prog 43 [.float .f64 x10] w8 (RetR R fun u40 w39 => ∃ (n41 : Int),
    u40 = .int .i64 n41 ∧ (((n41 == 0) = true → J12 x10 i_0 3 w39) ∧ ((n41 == 0) = false → CallsW Tryz.prog 58 [.int .i64 d_1, .int .i64 n41] w39 (RetR R fun u44 w43 => ∃ (n45 : Int), u44 = .int .i64 n45 ∧ CallsW Tryz.prog
    57 [.int .i64 n45] w43 (RetR R fun u48 w47 => ∃ (x49 : Nat), u48 = .float .f64 x49 ∧ J12 x49 i_0 1 w47)))))) ∧ ((d_0 == 10) = false → (((d_0 == 11) = true → (((IntKind.u64.wrap d_1) = 0 → R (.panicked (divPanic
    Tryz.prog)) w8) ∧ ((IntKind.u64.wrap d_1) ≠ 0 → ∀ n51 : Int, n51 = Int.tmod i_0 (IntKind.u64.wrap d_1) → J12 x10 n51 1 w8))) ∧ ((d_0 == 11) = false → (((d_0 == 12) = true → (((4611686018427387904 : Int) = 0 → R
    (.panicked (divPanic Tryz.prog)) w8) ∧ ((4611686018427387904 : Int) ≠ 0 → ∀ n52 : Int, n52 = Int.tmod i_0 4611686018427387904 → CallsW Tryz.prog 59 [.float .f64 x10] w8 (RetR R fun u54 w53 => ∃ (n55 : Int), u54 = .int
    .u64 n55 ∧ ∀ n57 : Int, n57 = IntKind.u64.wrap ((IntKind.u64.wrap (n52 * 4)) + n55) → J12 x10 n57 1 w53)))) ∧ ((d_0 == 12) = false → J12 x10 i_0 1 w8))))))))))))))))))))))))) ∧ ∀ (x58 : Nat) (n59 : Int) (n60 : Int)
    (w61 : World), J12 x58 n59 n60 w61 → (((n60 != 1) = true → R (.returned (.tuple #[.agg #[.int .u64 0, .float .f64 0], .int .i64 n60])) w61) ∧ ((n60 != 1) = false → CallsW Tryz.prog 38 [.float .f64 x58] w61 (RetR R fun
    u63 w62 => ∃ (x64 : Nat), u63 = .float .f64 x64 ∧ R (.returned (.tuple #[.agg #[.int .u64 n59, .float .f64 x64], .int .i64 1])) w62)))))))
theorem sx39.ok {d_0 : Int} {d_1 : Int} {d_2 : Nat} {i_0 : Int} {i_1 : Nat} {R : Ending → World → Prop} {w : World} (h : sx39 d_0 d_1 d_2 i_0 i_1 R w) : CallsW Tryz.prog 39 [.agg #[.int .i64 d_0, .int .i64 d_1, .float .f64 d_2], .agg #[.int .u64 i_0, .float .f64 i_1]] w R :=
  callsW_of mix Tryz.func39 (by kernel_rfl) (by kernel_rfl) (Eq.mpr (by kernel_rfl : denFn Tryz.prog { locals := [2, 3, 4], pureTo := [26, 33, 39, 67], sem := [61, 66], named := [85, 89, 93], cuts := [(38, { slots := [(6, .float .f64), (7, .int .u64), (8, .int .i64)], cells := [] })] } Tryz.f39 [.agg #[.int .i64 d_0, .int .i64 d_1, .float .f64 d_2], .agg #[.int .u64 i_0, .float .f64 i_1]] R w = sx39 d_0 d_1 d_2 i_0 i_1 R w) h)

/- reprise/repriseref03.Run -/
def sx22 (list : Option Addr) (list_n list_c : Nat) (r_0 : Int) (r_1 : Nat) (R : Ending → World → Prop) (w : World) : Prop :=
  ∀ w1, Grew w w1 → ∀ w2, Grew w1 w2 → CallsW Tryz.prog 20 [.slice list list_n list_c] w2 (RetR R fun u4 w3 => ∃ (n5 : Int), u4 = .int .i64 n5 ∧ (((n5 != 0) = true → R (.returned (.tuple #[.agg #[.int .u64 0, .float .f64 0],
    .int .i64 0])) w3) ∧ ((n5 != 0) = false → ∀ w7, Grew w3 w7 → ((CallsW Tryz.prog 38 [.float .f64 r_1] w7 (RetR R fun u9 w8 => ∃ (x10 : Nat), u9 = .float .f64 x10 ∧ SameB w7 w8 [] ∧ ∀ w12, Grew w8 w12 → SameB w8 w12 [] ∧
    ∃ (I13 : Int → Int → Nat → Int → Nat → World → Prop) (m13 : Int → Int → Nat → Int → Nat → World → Nat), I13 0 0 0 r_0 x10 w12 ∧ ∀ (n14 : Int) (n15 : Int) (x16 : Nat) (n17 : Int) (x18 : Nat) (w19 : World), I13 n14 n15
    x16 n17 x18 w19 → (((decide (n14 < ((list_n : Nat) : Int))) = true → ∀ w20, Grew w19 w20 → withSome list (fun d21 => (0 ≤ n14 ∧ n14 < (list_n : Nat)) ∧ ∃ (n22 : Int) (n23 : Int) (x24 : Nat), CellsAt w20 (Addr.add d21
    (n14.toNat * 3)) 0 [.int .i64 n22, .int .i64 n23, .float .f64 x24] ∧ ((CallsW Tryz.prog 39 [.agg #[.int .i64 n22, .int .i64 n23, .float .f64 x24], .agg #[.int .u64 n17, .float .f64 x18]] w20 (RetR R fun u26 w25 => ∃
    (n27 : Int) (x28 : Nat) (n29 : Int), u26 = .tuple #[.agg #[.int .u64 n27, .float .f64 x28], .int .i64 n29] ∧ SameB w20 w25 [(Addr.add d21 (n14.toNat * 3))] ∧ ∀ w31, Grew w25 w31 → SameB w25 w31 [(Addr.add d21
    (n14.toNat * 3))] ∧ (((n29 != 1) = true → R (.returned (.tuple #[.agg #[.int .u64 0, .float .f64 0], .int .i64 n29])) w31) ∧ ((n29 != 1) = false → (I13 (IntKind.i64.wrap (n14 + 1)) n15 x16 n27 x28 w31 ∧ m13
    (IntKind.i64.wrap (n14 + 1)) n15 x16 n27 x28 w31 < m13 n14 n15 x16 n17 x18 w19))))) ∧ (∀ w32, Grew w20 w32 → SameB w20 w32 [(Addr.add d21 (n14.toNat * 3))] ∧ CallsW Tryz.prog 39 [.agg #[.int .i64 n22, .int .i64 n23,
    .float .f64 x24], .agg #[.int .u64 n17, .float .f64 x18]] w32 (RetR R fun u34 w33 => ∃ (n35 : Int) (x36 : Nat) (n37 : Int), u34 = .tuple #[.agg #[.int .u64 n35, .float .f64 x36], .int .i64 n37] ∧ SameB w32 w33
    [(Addr.add d21 (n14.toNat * 3))] ∧ (((n37 != 1) = true → R (.returned (.tuple #[.agg #[.int .u64 0, .float .f64 0], .int .i64 n37])) w33) ∧ ((n37 != 1) = false → (I13 (IntKind.i64.wrap (n14 + 1)) n15 x16 n35 x36 w33 ∧
    m13 (IntKind.i64.wrap (n14 + 1)) n15 x16 n35 x36 w33 < m13 n14 n15 x16 n17 x18 w19)))))))) ∧ ((decide (n14 < ((list_n : Nat) : Int))) = false → R (.returned (.tuple #[.agg #[.int .u64 n17, .float .f64 x18], .int .i64
    1])) w19)))) ∧ (∀ w39, Grew w7 w39 → SameB w7 w39 [] ∧ CallsW Tryz.prog 38 [.float .f64 r_1] w39 (RetR R fun u41 w40 => ∃ (x42 : Nat), u41 = .float .f64 x42 ∧ SameB w39 w40 [] ∧ ∃ (I44 : Int → Int → Nat → Int → Nat →
    World → Prop) (m44 : Int → Int → Nat → Int → Nat → World → Nat), I44 0 0 0 r_0 x42 w40 ∧ ∀ (n45 : Int) (n46 : Int) (x47 : Nat) (n48 : Int) (x49 : Nat) (w50 : World), I44 n45 n46 x47 n48 x49 w50 → (((decide (n45 <
    ((list_n : Nat) : Int))) = true → ∀ w51, Grew w50 w51 → withSome list (fun d52 => (0 ≤ n45 ∧ n45 < (list_n : Nat)) ∧ ∃ (n53 : Int) (n54 : Int) (x55 : Nat), CellsAt w51 (Addr.add d52 (n45.toNat * 3)) 0 [.int .i64 n53,
    .int .i64 n54, .float .f64 x55] ∧ ((CallsW Tryz.prog 39 [.agg #[.int .i64 n53, .int .i64 n54, .float .f64 x55], .agg #[.int .u64 n48, .float .f64 x49]] w51 (RetR R fun u57 w56 => ∃ (n58 : Int) (x59 : Nat) (n60 : Int),
    u57 = .tuple #[.agg #[.int .u64 n58, .float .f64 x59], .int .i64 n60] ∧ SameB w51 w56 [(Addr.add d52 (n45.toNat * 3))] ∧ ∀ w62, Grew w56 w62 → SameB w56 w62 [(Addr.add d52 (n45.toNat * 3))] ∧ (((n60 != 1) = true → R
    (.returned (.tuple #[.agg #[.int .u64 0, .float .f64 0], .int .i64 n60])) w62) ∧ ((n60 != 1) = false → (I44 (IntKind.i64.wrap (n45 + 1)) n46 x47 n58 x59 w62 ∧ m44 (IntKind.i64.wrap (n45 + 1)) n46 x47 n58 x59 w62 < m44
    n45 n46 x47 n48 x49 w50))))) ∧ (∀ w63, Grew w51 w63 → SameB w51 w63 [(Addr.add d52 (n45.toNat * 3))] ∧ CallsW Tryz.prog 39 [.agg #[.int .i64 n53, .int .i64 n54, .float .f64 x55], .agg #[.int .u64 n48, .float .f64 x49]]
    w63 (RetR R fun u65 w64 => ∃ (n66 : Int) (x67 : Nat) (n68 : Int), u65 = .tuple #[.agg #[.int .u64 n66, .float .f64 x67], .int .i64 n68] ∧ SameB w63 w64 [(Addr.add d52 (n45.toNat * 3))] ∧ (((n68 != 1) = true → R
    (.returned (.tuple #[.agg #[.int .u64 0, .float .f64 0], .int .i64 n68])) w64) ∧ ((n68 != 1) = false → (I44 (IntKind.i64.wrap (n45 + 1)) n46 x47 n66 x67 w64 ∧ m44 (IntKind.i64.wrap (n45 + 1)) n46 x47 n66 x67 w64 < m44
    n45 n46 x47 n48 x49 w50)))))))) ∧ ((decide (n45 < ((list_n : Nat) : Int))) = false → R (.returned (.tuple #[.agg #[.int .u64 n48, .float .f64 x49], .int .i64 1])) w50))))))))
theorem sx22.ok {list : Option Addr} {list_n list_c : Nat} {r_0 : Int} {r_1 : Nat} {R : Ending → World → Prop} {w : World} (h : sx22 list list_n list_c r_0 r_1 R w) : CallsW Tryz.prog 22 [.slice list list_n list_c, .agg #[.int .u64 r_0, .float .f64 r_1]] w R :=
  callsW_of mix Tryz.func22 (by kernel_rfl) (by kernel_rfl) (Eq.mpr (by kernel_rfl : denFn Tryz.prog { locals := [3, 4, 6, 8], draws := [(3, { order := (.cons 0 (.cons 1 (.cons 2 (.cons 3 (.alt (.cons 4 (.cons 5 (.cons 6 (.cons 7 .nil)))) (.cons 6 (.cons 4 (.cons 5 (.cons 7 .nil))))))))), bars := [7] }), (7, { order := (.cons 0 (.cons 1 (.cons 2 (.cons 3 (.cons 4 (.alt (.cons 5 (.cons 6 (.cons 7 (.cons 8 (.cons 9 (.cons 10 (.cons 11 .nil))))))) (.cons 9 (.cons 5 (.cons 6 (.cons 7 (.cons 8 (.cons 10 (.cons 11 .nil))))))))))))), bars := [10] })], loops := [(5, { slots := [(7, .int .i64)], cells := [(4, 36, [.int .u64, .float .f64]), (6, 36, [.int .u64, .float .f64])] })] } Tryz.f22 [.slice list list_n list_c, .agg #[.int .u64 r_0, .float .f64 r_1]] R w = sx22 list list_n list_c r_0 r_1 R w) h)


theorem rstep_ok {o : OpV} {w : World} : CallsW Tryz.prog 37 [o.v] w (Rets fun v w' => v = .bool (isStepB o) ∧ Grew w w') := by
  refine sx37.ok ?_
  unfold sx37
  intro w1 hg1
  have fin : ∀ b, b = isStepB o → Rets (fun v w' => v = Value.bool (isStepB o) ∧ Grew w w') (.returned (.bool b)) w1 := fun b h => ⟨_, rfl, by rw [h], hg1⟩
  refine ⟨fun b w' => w' = w1 ∧ b = decide (1 ≤ o.kind ∧ o.kind ≤ 12 ∧ o.kind ≠ 7 ∧ o.kind ≠ 11), ⟨fun h => ⟨rfl, ?_⟩, fun h1 => ⟨fun h => ⟨rfl, ?_⟩, fun h2 => ⟨fun h => ⟨rfl, ?_⟩, fun h3 => ⟨fun h => ⟨rfl, ?_⟩, fun h4 => ⟨fun h => ⟨rfl, ?_⟩, fun h5 => ⟨fun h => ⟨rfl, ?_⟩, fun h6 => ⟨fun h => ⟨rfl, ?_⟩, fun h8 => ⟨fun h => ⟨rfl, ?_⟩, fun h9 => ⟨fun h => ⟨rfl, ?_⟩, fun h10 => ⟨rfl, ?_⟩⟩⟩⟩⟩⟩⟩⟩⟩⟩, ?_⟩
  all_goals try (rw [Bool.eq_iff_iff]; simp only [beq_iff_eq, beq_eq_false_iff_ne, ne_eq, decide_eq_true_eq] at *; omega)
  rintro b w4 ⟨hw, hb⟩
  subst hw; subst hb
  refine ⟨fun h => fin _ ?_, fun h => ⟨fun h7 => ⟨fun h => fin _ ?_, fun h => fin _ ?_⟩, fun h7 => ⟨fun h11 => fin _ ?_, fun h11 => fin _ ?_⟩⟩⟩
  all_goals simp only [beq_iff_eq, beq_eq_false_iff_ne, ne_eq, decide_eq_true_eq, decide_eq_false_iff_not, ge_iff_le] at *
  all_goals unfold isStepB
  · rw [if_neg (by omega), if_neg (by omega)]; symm; rw [decide_eq_true_eq]; omega
  · rw [if_pos h7, decide_eq_decide]; omega
  · rw [if_pos h7]; symm; rw [decide_eq_false_iff_not]; omega
  · rw [if_neg h7, if_pos h11]
  · rw [if_neg h7, if_neg h11]; symm; rw [decide_eq_false_iff_not]; omega
theorem RCheck_ok {a : Option Addr} {n c : Nat} {l : List OpV} {w : World} (hr : Reads w Enc.op3 (a, n, c) l) : CallsW Tryz.prog 20 [.slice a n c] w (Rets fun v w' => v = .int .i64 (if checkB l then 0 else 30) ∧ Grew w w') := by
  refine sx20.ok ?_
  unfold sx20
  have hn : n = l.length := hr.2.1
  subst hn
  refine ⟨fun h => ?_, fun h => ?_⟩
  · simp only [decide_eq_true_eq] at h
    have : checkB l = false := by
      unfold checkB
      have : decide (l.length ≤ 8) = false := by rw [decide_eq_false_iff_not]; omega
      rw [this]; rfl
    exact ⟨_, rfl, by rw [this]; rfl, Grew.refl _⟩
  · simp only [decide_eq_false_iff_not] at h
    refine ⟨fun i w' => ∃ k : Nat, i = k ∧ k ≤ l.length ∧ (l.take k).all isStepB = true ∧ Grew w w', fun i _ => l.length - i.toNat, ⟨0, rfl, Nat.zero_le _, rfl, Grew.refl _⟩, ?_⟩
    rintro i w3 ⟨k, rfl, hk, hall, hg3⟩
    refine ⟨fun hlt => ?_, fun hge => ?_⟩
    · simp only [decide_eq_true_eq] at hlt
      obtain ⟨d, x, rfl, hx, hc⟩ := (hr.grew hg3).at0 (k := k) (by omega)
      have hw : IntKind.i64.wrap ((k : Int) + 1) = ((k + 1 : Nat) : Int) := by rw [IntKind.wrap_i64]; omega
      refine ⟨⟨by omega, by omega⟩, _, _, _, op3_cells hc, rstep_ok.use fun v w9 ⟨hv, hg9⟩ => ?_⟩
      subst hv
      have hg9' := hg3.trans hg9
      rw [hw]
      refine ⟨_, rfl, fun hb => ?_, fun hb => ⟨⟨k + 1, rfl, by omega, ?_, hg9'⟩, by show l.length - (((k + 1 : Nat) : Int)).toNat < l.length - ((k : Int)).toNat; omega⟩⟩
      · have : checkB l = false := by
          apply Bool.eq_false_iff.2
          intro hc
          have := (checkB_step hc).2 x (List.mem_of_getElem? hx)
          rw [this] at hb; cases hb
        exact ⟨_, rfl, by rw [this]; rfl, hg9'⟩
      · rw [take_snoc hx, List.all_append, hall]
        have : isStepB x = true := by simpa using hb
        simp [this]
    · simp only [decide_eq_false_iff_not] at hge
      rw [List.take_of_length_le (by omega)] at hall
      have : checkB l = true := by
        unfold checkB
        have : decide (l.length ≤ 8) = true := by rw [decide_eq_true_eq]; omega
        rw [this, hall]; rfl
      exact ⟨_, rfl, by rw [this]; rfl, hg3⟩

def flipF (x : Nat) : Nat := if x < 9223372036854775808 then x + 9223372036854775808 else x - 9223372036854775808
theorem copy_flip {x : Nat} (hx : x < FL) : copyF x (flipF (copyF 4607182418800017408 x)) = flipF x := by
  have hx' : x < 18446744073709551616 := hx
  unfold copyF flipF
  repeat' split
  all_goals omega
theorem turned_ok {x : Nat} {w : World} (hx : x < FL) : CallsW Tryz.prog 53 [.float .f64 x] w (Rets fun v w' => v = .float .f64 (flipF x) ∧ w' = w) := by
  refine sx53.ok ?_
  unfold sx53
  refine rbits_ok.use fun v w1 ⟨hv, hw⟩ => ?_
  subst hv; subst hw
  refine ⟨_, rfl, fun n5 h5 => rfrom_ok.use fun v w1 ⟨hv, hw⟩ => ?_⟩
  subst hv; subst hw
  refine ⟨_, rfl, _, rfl, ?_, rfl⟩
  have hx' : x < 18446744073709551616 := hx
  have : Go.bits .xor .u64 (x : Int) 9223372036854775808 = ((x ^^^ 9223372036854775808 : Nat) : Int) := by
    have := u64_xor (x : Int) (9223372036854775808 : Int) (by omega) (by omega) (by decide) (by decide)
    rw [this, Int.toNat_natCast]; rfl
  rw [h5, this, Int.toNat_natCast, xor63 hx']; rfl
theorem sized_ok {x : Nat} {w : World} (hx : x < FL) : CallsW Tryz.prog 54 [.float .f64 x] w (Rets fun v w' => v = .float .f64 (x % 9223372036854775808) ∧ w' = w) := by
  refine sx54.ok ?_
  unfold sx54
  refine rbits_ok.use fun v w1 ⟨hv, hw⟩ => ?_
  subst hv; subst hw
  refine ⟨_, rfl, fun n5 h5 => rfrom_ok.use fun v w1 ⟨hv, hw⟩ => ?_⟩
  subst hv; subst hw
  refine ⟨_, rfl, _, rfl, ?_, rfl⟩
  rw [h5, abs_bits hx, Int.toNat_natCast]
theorem per_ok {n v : Int} {w : World} (hv : v ≠ 0) : CallsW Tryz.prog 58 [.int .i64 n, .int .i64 v] w (Rets fun u w' => u = .int .i64 (IntKind.i64.wrap (Int.tdiv n v)) ∧ w' = w) := by
  refine sx58.ok ?_
  unfold sx58
  refine ⟨fun h => ⟨_, rfl, ?_, rfl⟩, fun h => ⟨fun h0 => absurd h0 hv, fun _ n1 h1 => ⟨_, rfl, by rw [h1], rfl⟩⟩⟩
  simp only [beq_iff_eq] at h
  rw [h]
  have : Int.tdiv n (-1) = 0 - n := by rw [Int.tdiv_neg, Int.tdiv_one]; omega
  rw [this]
theorem rside_ok {x : Nat} {w : World} : CallsW Tryz.prog 59 [.float .f64 x] w (Rets fun v w' => v = .int .u64 (sideF x) ∧ w' = w) := by
  refine sx59.ok ?_
  unfold sx59
  have e3 : ∀ (h0 : (ordB x 0 == some .lt) = false) (h2 : (ordB x 0 == some .gt) = true), sideF x = 2 := by
    intro h0 h2
    unfold sideF; rw [if_neg (by rw [h0]; simp)]
    simp only [beq_iff_eq] at h2
    rw [h2]; rfl
  refine ⟨_, eqF_lss, fun h => ⟨_, rfl, by unfold sideF; rw [if_pos h], rfl⟩, fun h0 => ⟨_, eqF_gtr, fun h => ⟨_, rfl, by rw [e3 h0 h], rfl⟩, fun h2 => ⟨_, eqF_eql, fun h => ⟨_, rfl, by unfold sideF; rw [if_neg (by rw [h0]; simp), if_pos h], rfl⟩, fun h1 => ⟨_, rfl, by unfold sideF; rw [if_neg (by rw [h0]; simp), if_neg (by rw [h1]; simp), if_neg (by rw [h2]; simp)], rfl⟩⟩⟩⟩

/-- one step in the reference -/
def oneB (o : OpV) (r : RecV) : RecV × Int := match applyB o r with
  | none => (rec0, 3)
  | some (_, false) => (rec0, 2)
  | some (r', true) => (r', 1)
/-- what a turn leaves: the fate and the value's one form -/
def FateP (t : Option (Nat × Bool)) (f : Int) (y : Nat) : Prop := match t with
  | none => f = 3
  | some (_, false) => f = 2
  | some (z, true) => f = 1 ∧ canonF y = canonF z
theorem FateP.trap {y : Nat} : FateP none 3 y := rfl
theorem FateP.drop {y z : Nat} : FateP (some (z, false)) 2 y := rfl
theorem FateP.keep {y z : Nat} (h : canonF y = canonF z) : FateP (some (z, true)) 1 y := ⟨rfl, h⟩
theorem One_ok {o : OpV} {r : RecV} {w : World} (hs : isStepB o = true) (hn : o.n < 9223372036854775808) (hx : r.val < FL) :
    CallsW Tryz.prog 39 [o.v, r.v] w (Rets fun v w' => v = .tuple #[(oneB o r).1.v, .int .i64 (oneB o r).2] ∧ Grew w w') := by
  refine sx39.ok ?_
  unfold sx39
  intro w1 hg1 w2 hg2 w3 hg3
  have hg3 := hg1.trans (hg2.trans hg3)
  refine rstep_ok.use fun v w4 ⟨hv, hg4⟩ => ?_
  subst hv
  have hg4 := hg3.trans hg4
  refine ⟨_, rfl, fun h => (by rw [hs] at h; cases h), fun _ => (RCanon_ok hx).use fun v w5 ⟨hv, hw⟩ => ?_⟩
  subst hv; subst hw
  have hcl : canonF r.val < FL := canonF_lt hx
  generalize hX : canonF r.val = X at hcl
  refine ⟨_, rfl, fun y k f w' => Grew w w' ∧ y < FL ∧ k = keyB o r.key X ∧ FateP (turnB o X) f y, ?_, ?_⟩
  · have k0 : o.kind ≠ 11 → o.kind ≠ 12 → r.key = keyB o r.key X := by intro a b; unfold keyB; rw [if_neg a, if_neg b]
    refine ⟨fun h => ⟨_, eqF_lss, fun hb => ?_, fun hb => ?_⟩, fun h1 => ⟨fun h => ⟨_, eqF_gtr, fun hb => ?_, fun hb => ?_⟩, fun h2 => ⟨fun h => ⟨_, neq_self, fun hb => ?_, fun hb => ?_⟩, fun h3 => ⟨fun h => ?_, fun h4 => ⟨fun h => ?_, fun h5 => ⟨fun h => ?_, fun h6 => ⟨fun h => ?_, fun h7 => ⟨fun h => ?_, fun h8 => ⟨fun h => ?_, fun h9 => ⟨fun h => ?_, fun h10 => ⟨fun h => ?_, fun h11 => ⟨fun h => ?_, fun h12 => ?_⟩⟩⟩⟩⟩⟩⟩⟩⟩⟩⟩⟩
    all_goals simp only [beq_iff_eq, beq_eq_false_iff_ne, ne_eq] at *
    · refine ⟨hg4, hcl, k0 (by omega) (by omega), ?_⟩
      have : turnB o X = some (X, false) := by unfold turnB; rw [if_pos h]; congr 2; simpa using hb
      rw [this]; exact .drop
    · refine ⟨hg4, hcl, k0 (by omega) (by omega), ?_⟩
      have : turnB o X = some (X, true) := by unfold turnB; rw [if_pos h]; congr 2; simpa using hb
      rw [this]; exact .keep rfl
    · refine ⟨hg4, hcl, k0 (by omega) (by omega), ?_⟩
      have : turnB o X = some (X, false) := by unfold turnB; rw [if_neg h1, if_pos h]; congr 2; simpa using hb
      rw [this]; exact .drop
    · refine ⟨hg4, hcl, k0 (by omega) (by omega), ?_⟩
      have : turnB o X = some (X, true) := by unfold turnB; rw [if_neg h1, if_pos h]; congr 2; simpa using hb
      rw [this]; exact .keep rfl
    · refine ⟨hg4, hcl, k0 (by omega) (by omega), ?_⟩
      have : turnB o X = some (X, false) := by unfold turnB; rw [if_neg h1, if_neg h2, if_pos h, hb]; rfl
      rw [this]; exact .drop
    · refine ⟨hg4, hcl, k0 (by omega) (by omega), ?_⟩
      have : turnB o X = some (X, true) := by unfold turnB; rw [if_neg h1, if_neg h2, if_pos h, hb]; rfl
      rw [this]; exact .keep rfl
    · refine (turned_ok hcl).use fun v w6 ⟨hv, hw⟩ => ?_
      subst hv; subst hw
      refine ⟨_, rfl, hg4, flip_lt hcl, k0 (by omega) (by omega), ?_⟩
      have : turnB o X = some (copyF X (flipF (copyF 4607182418800017408 X)), true) := by unfold turnB; rw [if_neg h1, if_neg h2, if_neg h3, if_pos h]; rfl
      rw [this, copy_flip hcl]; exact .keep rfl
    · refine (sized_ok hcl).use fun v w6 ⟨hv, hw⟩ => ?_
      subst hv; subst hw
      have hcl' : X < 18446744073709551616 := hcl
      refine ⟨_, rfl, hg4, by show X % 9223372036854775808 < 18446744073709551616; omega, k0 (by omega) (by omega), ?_⟩
      have : turnB o X = some (X % 9223372036854775808, true) := by unfold turnB; rw [if_neg h1, if_neg h2, if_neg h3, if_neg h4, if_pos h]
      rw [this]; exact .keep rfl
    · refine (RFloor_ok hcl).use fun v w6 ⟨hv, hg⟩ => ?_
      subst hv
      refine ⟨_, rfl, hg4.trans hg, floorF_lt _, k0 (by omega) (by omega), ?_⟩
      have : turnB o X = some (floorF X, true) := by unfold turnB; rw [if_neg h1, if_neg h2, if_neg h3, if_neg h4, if_neg h5, if_pos h]
      rw [this]; exact .keep rfl
    · refine (RScale_ok hcl).use fun v w6 ⟨y, hv, hc, hl, hg⟩ => ?_
      subst hv
      refine ⟨_, rfl, hg4.trans hg, hl, k0 (by omega) (by omega), ?_⟩
      have : turnB o X = some (scaleF X o.n, true) := by unfold turnB; rw [if_neg h1, if_neg h2, if_neg h3, if_neg h4, if_neg h5, if_neg h6, if_pos h]
      rw [this]; exact .keep (by rw [hc, scaleF, canonF_canon])
    · refine arith_sem (.inr (.inr (.inr rfl))) fun q w6 hg hr => ?_
      obtain ⟨r1, r2⟩ := divF_of hr
      refine ⟨q, rfl, hg4.trans hg, r2, k0 (by omega) (by omega), ?_⟩
      have : turnB o X = some (divF 4607182418800017408 X, true) := by unfold turnB; rw [if_neg h1, if_neg h2, if_neg h3, if_neg h4, if_neg h5, if_neg h6, if_neg h7, if_pos h]
      rw [this]; exact .keep r1
    · refine arith_sem (.inr (.inl rfl)) fun q w6 hg hr => ?_
      have hs := sub_self hr
      have ht : turnB o X = if nanB X || infB X then none else some (X, true) := by unfold turnB; rw [if_neg h1, if_neg h2, if_neg h3, if_neg h4, if_neg h5, if_neg h6, if_neg h7, if_neg h8, if_pos h]
      refine ⟨q, rfl, _, eqF_neq, fun hb => ⟨hg4.trans hg, hcl, k0 (by omega) (by omega), ?_⟩, fun hb => ⟨hg4.trans hg, hcl, k0 (by omega) (by omega), ?_⟩⟩
      · rw [ht, if_pos (by rw [← hs]; exact hb)]; exact .trap
      · rw [ht, if_neg (by rw [← hs, hb]; simp)]; exact .keep rfl
    · have ht : turnB o X = if wholeF X = 0 then none else some (numOf (IntKind.i64.wrap (Int.tdiv o.n (wholeF X))), true) := by unfold turnB; rw [if_neg h1, if_neg h2, if_neg h3, if_neg h4, if_neg h5, if_neg h6, if_neg h7, if_neg h8, if_neg h9, if_pos h]
      refine (RWhole_ok hcl).use fun v w6 ⟨hv, hw⟩ => ?_
      subst hv; subst hw
      refine ⟨_, rfl, fun h0 => ⟨hg4, hcl, k0 (by omega) (by omega), ?_⟩, fun h0 => ?_⟩
      · have h0 : wholeF X = 0 := by simpa using h0
        rw [ht, if_pos h0]; exact .trap
      · have h0 : wholeF X ≠ 0 := by simpa using h0
        refine (per_ok h0).use fun v w7 ⟨hv, hw⟩ => ?_
        subst hv; subst hw
        refine ⟨_, rfl, ROf_ok.use fun v w7 ⟨hv, hw⟩ => ?_⟩
        subst hv; subst hw
        refine ⟨_, rfl, hg4, numOf_lt _, k0 (by omega) (by omega), ?_⟩
        rw [ht, if_neg h0]; exact .keep rfl
    · have ht : turnB o X = some (X, true) := by unfold turnB; rw [if_neg h1, if_neg h2, if_neg h3, if_neg h4, if_neg h5, if_neg h6, if_neg h7, if_neg h8, if_neg h9, if_neg h10]
      refine ⟨fun h0 => ?_, fun h0 n hn => ⟨hg4, hcl, ?_, ?_⟩⟩
      · exfalso
        unfold isStepB at hs
        rw [if_neg (by omega), if_pos h] at hs
        simp only [decide_eq_true_eq] at hs
        rw [IntKind.wrap_u64] at h0
        omega
      · unfold keyB; rw [if_pos h]; exact hn
      · rw [ht]; exact .keep rfl
    · have ht : turnB o X = some (X, true) := by unfold turnB; rw [if_neg h1, if_neg h2, if_neg h3, if_neg h4, if_neg h5, if_neg h6, if_neg h7, if_neg h8, if_neg h9, if_neg h10]
      refine ⟨fun h0 => (by cases h0), fun _ n52 h52 => rside_ok.use fun v w6 ⟨hv, hw⟩ => ?_⟩
      subst hv; subst hw
      refine ⟨_, rfl, fun n57 h57 => ⟨hg4, hcl, ?_, ?_⟩⟩
      · unfold keyB; rw [if_neg h11, if_pos h, h57, h52]
      · rw [ht]; exact .keep rfl
    · have ht : turnB o X = some (X, true) := by unfold turnB; rw [if_neg h1, if_neg h2, if_neg h3, if_neg h4, if_neg h5, if_neg h6, if_neg h7, if_neg h8, if_neg h9, if_neg h10]
      refine ⟨hg4, hcl, k0 h11 h12, ?_⟩
      rw [ht]; exact .keep rfl
  · rintro y k f w6 ⟨hg6, hyl, rfl, hf⟩
    have ho : ∀ (z : Nat) (b : Bool), turnB o X = some (z, b) → oneB o r = if b then (⟨keyB o r.key X, canonF z⟩, 1) else (rec0, 2) := by
      intro z b h
      unfold oneB applyB
      rw [hX, h]; cases b <;> rfl
    cases ht : turnB o X with
    | none =>
      rw [ht] at hf
      have e : oneB o r = (rec0, 3) := by unfold oneB applyB; rw [hX, ht]
      have hf : f = 3 := hf
      subst hf
      exact ⟨fun _ => ⟨_, rfl, by rw [e]; rfl, hg6⟩, fun h => (by cases h)⟩
    | some p =>
      obtain ⟨z, b⟩ := p
      rw [ht] at hf
      have e := ho z b ht
      cases b
      · have hf : f = 2 := hf
        subst hf
        exact ⟨fun _ => ⟨_, rfl, by rw [e]; rfl, hg6⟩, fun h => (by cases h)⟩
      · obtain ⟨hf, hc⟩ := hf
        subst hf
        refine ⟨fun h => (by cases h), fun _ => (RCanon_ok hyl).use fun v w7 ⟨hv, hw⟩ => ?_⟩
        subst hv; subst hw
        exact ⟨_, rfl, _, rfl, by rw [e, hc]; rfl, hg6⟩

theorem cell_block {w : World} {a : Addr} {v : Value} (h : w.cell? a = some v) : a.block < w.heap.size := by
  by_cases hb : a.block < w.heap.size
  · exact hb
  · exfalso
    have : w.heap[a.block]? = none := Array.getElem?_eq_none (by omega)
    simp [World.cell?, this] at h
theorem same1 {x y : World} {d : Addr} {v : Value} {r : List Value} (hc : CellsAt x d 0 (v :: r)) (hg : Grew x y) : SameB x y [d] := by
  refine ⟨hg.block _ ?_, trivial⟩
  have := cell_block hc.1
  rwa [Addr.add_zero'] at this
theorem thruB_one (o : OpV) (l : List OpV) (r : RecV) : thruB (o :: l) r = if (oneB o r).2 = 1 then thruB l (oneB o r).1 else (rec0, (oneB o r).2) := by
  unfold oneB
  rw [thruB]
  cases applyB o r with
  | none => rfl
  | some p => obtain ⟨r', b⟩ := p; cases b <;> rfl
theorem oneB_fits {o : OpV} {r : RecV} (hs : isStepB o = true) (ho : o.Fits) (hr : r.Fits) : (oneB o r).1.Fits := by
  unfold oneB
  have h0 : rec0.Fits := ⟨⟨by decide, by decide⟩, by decide⟩
  cases ha : applyB o r with
  | none => exact h0
  | some p =>
    obtain ⟨r', b⟩ := p
    cases b
    · exact h0
    · exact applyB_fits hs ho hr ha
theorem RRun_ok {a : Option Addr} {n c : Nat} {l : List OpV} {r : RecV} {w : World} (hr : Reads w Enc.op3 (a, n, c) l) (hl : ∀ o ∈ l, o.Fits) (hf : r.Fits) :
    CallsW Tryz.prog 22 [.slice a n c, r.v] w (Rets fun v w' => v = .tuple #[(runB l r).1.v, .int .i64 (runB l r).2] ∧ Grew w w') := by
  refine sx22.ok ?_
  unfold sx22
  have hn : n = l.length := hr.2.1
  subst hn
  have nb : ∀ {x y : World}, SameB x y [] := by intro x y; simp [SameB]
  intro w1 hg1 w2 hg2
  have hg2 := hg1.trans hg2
  refine (RCheck_ok (hr.grew hg2)).use fun v w3 ⟨hv, hg3⟩ => ?_
  subst hv
  have hg3 := hg2.trans hg3
  refine ⟨_, rfl, fun h => ?_, fun h w7 hg7 => ?_⟩
  · have : checkB l = false := by
      cases hc : checkB l
      · rfl
      · rw [hc] at h; cases h
    exact ⟨_, rfl, by unfold runB; rw [this]; rfl, hg3⟩
  have hc : checkB l = true := by
    cases hc : checkB l
    · rw [hc] at h; cases h
    · rfl
  obtain ⟨hlen, hst⟩ := checkB_step hc
  have hg7 := hg3.trans hg7
  have hR : runB l r = thruB l ⟨r.key, canonF r.val⟩ := by unfold runB; rw [if_pos hc]
  rw [hR]
  generalize hR' : thruB l ⟨r.key, canonF r.val⟩ = R
  have hc0 : canonF r.val < FL := canonF_lt hf.2
  clear hg1 hg2 hg3
  refine ⟨(RCanon_ok hf.2).use fun v w8 ⟨hv, hw⟩ => ?_, fun wA hgA => ⟨nb, (RCanon_ok hf.2).use fun v w8 ⟨hv, hw⟩ => ?_⟩⟩
  · subst hv; subst hw
    refine ⟨_, rfl, nb, fun wL hgL => ⟨nb, ?_⟩⟩
    have hL := hg7.trans hgL
    refine ⟨fun i _ _ k x w' => ∃ j : Nat, i = j ∧ j ≤ l.length ∧ thruB (l.drop j) ⟨k, x⟩ = R ∧ RecV.Fits ⟨k, x⟩ ∧ Grew w w', fun i _ _ _ _ _ => l.length - i.toNat, ⟨0, rfl, Nat.zero_le _, hR', ⟨hf.1, hc0⟩, hL⟩, ?_⟩
    rintro i _ _ k x w14 ⟨j, rfl, hj, hT, hfx, hg14⟩
    refine ⟨fun hlt w20 hg20 => ?_, fun hge => ?_⟩
    · simp only [decide_eq_true_eq] at hlt
      have hg20 := hg14.trans hg20
      obtain ⟨d, o, rfl, ho, hcc⟩ := (hr.grew hg20).at0 (k := j) (by omega)
      have hw : IntKind.i64.wrap ((j : Int) + 1) = ((j + 1 : Nat) : Int) := by rw [IntKind.wrap_i64]; omega
      have hos := hst o (List.mem_of_getElem? ho)
      have hof := hl o (List.mem_of_getElem? ho)
      rw [drop_cons ho, thruB_one] at hT
      refine ⟨⟨by omega, by omega⟩, _, _, _, op3_cells hcc, (One_ok (o := o) (r := ⟨k, x⟩) hos hof.2.1.2 hfx.2).use fun v w25 ⟨hv, hg25⟩ => ?_, fun w32 hg32 => ⟨same1 (op3_cells hcc) hg32, (One_ok (o := o) (r := ⟨k, x⟩) hos hof.2.1.2 hfx.2).use fun v w33 ⟨hv, hg33⟩ => ?_⟩⟩
      · subst hv
        refine ⟨_, _, _, rfl, same1 (op3_cells hcc) hg25, fun w31 hg31 => ⟨same1 ((op3_cells hcc).grew hg25) hg31, fun hb => ?_, fun hb => ?_⟩⟩
        · simp only [bne_iff_ne, ne_eq] at hb
          rw [if_neg hb] at hT
          exact ⟨_, rfl, by rw [← hT]; rfl, hg20.trans (hg25.trans hg31)⟩
        · simp only [bne_eq_false_iff_eq] at hb
          rw [if_pos hb] at hT
          rw [hw]
          exact ⟨⟨j + 1, rfl, by omega, hT, oneB_fits hos hof hfx, hg20.trans (hg25.trans hg31)⟩, by show l.length - (((j + 1 : Nat) : Int)).toNat < l.length - ((j : Int)).toNat; omega⟩
      · subst hv
        refine ⟨_, _, _, rfl, same1 ((op3_cells hcc).grew hg32) hg33, fun hb => ?_, fun hb => ?_⟩
        · simp only [bne_iff_ne, ne_eq] at hb
          rw [if_neg hb] at hT
          exact ⟨_, rfl, by rw [← hT]; rfl, hg20.trans (hg32.trans hg33)⟩
        · simp only [bne_eq_false_iff_eq] at hb
          rw [if_pos hb] at hT
          rw [hw]
          exact ⟨⟨j + 1, rfl, by omega, hT, oneB_fits hos hof hfx, hg20.trans (hg32.trans hg33)⟩, by show l.length - (((j + 1 : Nat) : Int)).toNat < l.length - ((j : Int)).toNat; omega⟩
    · simp only [decide_eq_false_iff_not] at hge
      rw [List.drop_of_length_le (by omega)] at hT
      exact ⟨_, rfl, by rw [← hT]; rfl, hg14⟩
  · subst hv; subst hw
    refine ⟨_, rfl, nb, ?_⟩
    have hL := hg7.trans hgA
    refine ⟨fun i _ _ k x w' => ∃ j : Nat, i = j ∧ j ≤ l.length ∧ thruB (l.drop j) ⟨k, x⟩ = R ∧ RecV.Fits ⟨k, x⟩ ∧ Grew w w', fun i _ _ _ _ _ => l.length - i.toNat, ⟨0, rfl, Nat.zero_le _, hR', ⟨hf.1, hc0⟩, hL⟩, ?_⟩
    rintro i _ _ k x w14 ⟨j, rfl, hj, hT, hfx, hg14⟩
    refine ⟨fun hlt w20 hg20 => ?_, fun hge => ?_⟩
    · simp only [decide_eq_true_eq] at hlt
      have hg20 := hg14.trans hg20
      obtain ⟨d, o, rfl, ho, hcc⟩ := (hr.grew hg20).at0 (k := j) (by omega)
      have hw : IntKind.i64.wrap ((j : Int) + 1) = ((j + 1 : Nat) : Int) := by rw [IntKind.wrap_i64]; omega
      have hos := hst o (List.mem_of_getElem? ho)
      have hof := hl o (List.mem_of_getElem? ho)
      rw [drop_cons ho, thruB_one] at hT
      refine ⟨⟨by omega, by omega⟩, _, _, _, op3_cells hcc, (One_ok (o := o) (r := ⟨k, x⟩) hos hof.2.1.2 hfx.2).use fun v w25 ⟨hv, hg25⟩ => ?_, fun w32 hg32 => ⟨same1 (op3_cells hcc) hg32, (One_ok (o := o) (r := ⟨k, x⟩) hos hof.2.1.2 hfx.2).use fun v w33 ⟨hv, hg33⟩ => ?_⟩⟩
      · subst hv
        refine ⟨_, _, _, rfl, same1 (op3_cells hcc) hg25, fun w31 hg31 => ⟨same1 ((op3_cells hcc).grew hg25) hg31, fun hb => ?_, fun hb => ?_⟩⟩
        · simp only [bne_iff_ne, ne_eq] at hb
          rw [if_neg hb] at hT
          exact ⟨_, rfl, by rw [← hT]; rfl, hg20.trans (hg25.trans hg31)⟩
        · simp only [bne_eq_false_iff_eq] at hb
          rw [if_pos hb] at hT
          rw [hw]
          exact ⟨⟨j + 1, rfl, by omega, hT, oneB_fits hos hof hfx, hg20.trans (hg25.trans hg31)⟩, by show l.length - (((j + 1 : Nat) : Int)).toNat < l.length - ((j : Int)).toNat; omega⟩
      · subst hv
        refine ⟨_, _, _, rfl, same1 ((op3_cells hcc).grew hg32) hg33, fun hb => ?_, fun hb => ?_⟩
        · simp only [bne_iff_ne, ne_eq] at hb
          rw [if_neg hb] at hT
          exact ⟨_, rfl, by rw [← hT]; rfl, hg20.trans (hg32.trans hg33)⟩
        · simp only [bne_eq_false_iff_eq] at hb
          rw [if_pos hb] at hT
          rw [hw]
          exact ⟨⟨j + 1, rfl, by omega, hT, oneB_fits hos hof hfx, hg20.trans (hg32.trans hg33)⟩, by show l.length - (((j + 1 : Nat) : Int)).toNat < l.length - ((j : Int)).toNat; omega⟩
    · simp only [decide_eq_false_iff_not] at hge
      rw [List.drop_of_length_le (by omega)] at hT
      exact ⟨_, rfl, by rw [← hT]; rfl, hg14⟩
end Go.Proofs.YtoljpkdokpinhaaGreat
