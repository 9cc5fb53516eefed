/- Two sources alike: the program's and the reference's, or none. Conditions: none. -/
import Derived.Test.YtifhpmmdfjmppaaGreatProg
import Derived.Test.YtifhpmmdfjmppaaGreatSrcE
namespace Go.Proofs.YtifhpmmdfjmppaaGreat
open Go.Sx
set_option maxRecDepth 100000
set_option linter.unusedVariables false
set_option linter.unusedSimpArgs false
/- (*reprise/source.Source).find -/
def sx34n (p : Int) (R : Ending → World → Prop) (w : World) : Prop :=
  R (.returned (.tuple #[.pointer none, .int .i64 2])) w
theorem sx34n.ok {p : Int} {R : Ending → World → Prop} {w : World} (h : sx34n p R w) : CallsW Tryz.prog 34 [.pointer none, .int .i64 p] w R :=
  callsW_of mix Tryz.func34 (by kernel_rfl) (by kernel_rfl) (Eq.mpr (by kernel_rfl : denFn Tryz.prog { known := [8] } Tryz.f34 [.pointer none, .int .i64 p] R w = sx34n p R w) h)

/- (*reprise/source.Source).Produce -/
def sx20n (i : Int) (p2_0 : Int) (p2_1 : Nat) (R : Ending → World → Prop) (w : World) : Prop :=
  ∀ w1, Grew w w1 → CallsW Tryz.prog 34 [.pointer none, .int .i64 i] w1 (RetR R fun u3 w2 => ∃ (p4 : Option Addr) (n5 : Int), u3 = .tuple #[.pointer p4, .int .i64 n5] ∧ (((n5 != 0) = true → R (.returned (.int .i64 n5)) w2) ∧
    ((n5 != 0) = false → withSome p4 (fun d7 => ∃ (a8 : Option Addr) (l8 c8 : Nat), w2.cell? d7 = some (.slice a8 l8 c8) ∧ (((decide (((l8 : Nat) : Int) ≥ 256)) = true → R (.returned (.int .i64 61)) w2) ∧ ((decide (((l8 :
    Nat) : Int) ≥ 256)) = false → ∀ w9, Grew w2 w9 → False))))))
theorem sx20n.ok {i : Int} {p2_0 : Int} {p2_1 : Nat} {R : Ending → World → Prop} {w : World} (h : sx20n i p2_0 p2_1 R w) : CallsW Tryz.prog 20 [.pointer none, .int .i64 i, .agg #[.int .u64 p2_0, .float .f64 p2_1]] w R :=
  callsW_of mix Tryz.func20 (by kernel_rfl) (by kernel_rfl) (Eq.mpr (by kernel_rfl : denFn Tryz.prog { locals := [5, 11], draws := [(6, { order := (.cons 0 (.cons 1 (.cons 2 (.cons 3 (.cons 4 (.cons 5 (.cons 6 (.cons 7 (.cons 8 (.cons 9 (.cons 10 .nil))))))))))), bars := [5] })] } Tryz.f20 [.pointer none, .int .i64 i, .agg #[.int .u64 p2_0, .float .f64 p2_1]] R w = sx20n i p2_0 p2_1 R w) h)

/- (*reprise/source.Source).Switch -/
def sx26n (p : Int) (on : Bool) (R : Ending → World → Prop) (w : World) : Prop :=
  CallsW Tryz.prog 34 [.pointer none, .int .i64 p] w (RetR R fun u2 w1 => ∃ (p3 : Option Addr) (n4 : Int), u2 = .tuple #[.pointer p3, .int .i64 n4] ∧ (((n4 == 0) = true → withSome p3 (fun d6 => RoomAt w1 (Addr.add d6 1) 0
    [.bool (!on)] ∧ ∀ w7, w7 = setCells w1 (Addr.add d6 1) 0 [.bool (!on)] → R (.returned (.int .i64 n4)) w7)) ∧ ((n4 == 0) = false → R (.returned (.int .i64 n4)) w1)))
theorem sx26n.ok {p : Int} {on : Bool} {R : Ending → World → Prop} {w : World} (h : sx26n p on R w) : CallsW Tryz.prog 26 [.pointer none, .int .i64 p, .bool on] w R :=
  callsW_of mix Tryz.func26 (by kernel_rfl) (by kernel_rfl) (Eq.mpr (by kernel_rfl : denFn Tryz.prog {} Tryz.f26 [.pointer none, .int .i64 p, .bool on] R w = sx26n p on R w) h)

/- (*reprise/source.Source).Parts -/
def sx11n  (R : Ending → World → Prop) (w : World) : Prop :=
  R (.returned (.int .i64 0)) w
theorem sx11n.ok  {R : Ending → World → Prop} {w : World} (h : sx11n  R w) : CallsW Tryz.prog 11 [.pointer none] w R :=
  callsW_of mix Tryz.func11 (by kernel_rfl) (by kernel_rfl) (Eq.mpr (by kernel_rfl : denFn Tryz.prog { known := [4] } Tryz.f11 [.pointer none] R w = sx11n  R w) h)

/- (*reprise/source.Source).Up -/
def sx16n (p : Int) (R : Ending → World → Prop) (w : World) : Prop :=
  CallsW Tryz.prog 34 [.pointer none, .int .i64 p] w (RetR R fun u2 w1 => ∃ (p3 : Option Addr) (n4 : Int), u2 = .tuple #[.pointer p3, .int .i64 n4] ∧ (((n4 == 0) = true → withSome p3 (fun d6 => ∃ (b7 : Bool), w1.cell?
    (Addr.add d6 1) = some (.bool b7) ∧ R (.returned (.bool (!b7))) w1)) ∧ ((n4 == 0) = false → R (.returned (.bool false)) w1)))
theorem sx16n.ok {p : Int} {R : Ending → World → Prop} {w : World} (h : sx16n p R w) : CallsW Tryz.prog 16 [.pointer none, .int .i64 p] w R :=
  callsW_of mix Tryz.func16 (by kernel_rfl) (by kernel_rfl) (Eq.mpr (by kernel_rfl : denFn Tryz.prog {} Tryz.f16 [.pointer none, .int .i64 p] R w = sx16n p R w) h)

/- (*reprise/source.Source).Len -/
def sx18n (p : Int) (R : Ending → World → Prop) (w : World) : Prop :=
  CallsW Tryz.prog 34 [.pointer none, .int .i64 p] w (RetR R fun u2 w1 => ∃ (p3 : Option Addr) (n4 : Int), u2 = .tuple #[.pointer p3, .int .i64 n4] ∧ (((n4 != 0) = true → R (.returned (.int .i64 0)) w1) ∧ ((n4 != 0) = false
    → withSome p3 (fun d6 => ∃ (a7 : Option Addr) (l7 c7 : Nat), w1.cell? d6 = some (.slice a7 l7 c7) ∧ R (.returned (.int .i64 ((l7 : Nat) : Int))) w1))))
theorem sx18n.ok {p : Int} {R : Ending → World → Prop} {w : World} (h : sx18n p R w) : CallsW Tryz.prog 18 [.pointer none, .int .i64 p] w R :=
  callsW_of mix Tryz.func18 (by kernel_rfl) (by kernel_rfl) (Eq.mpr (by kernel_rfl : denFn Tryz.prog {} Tryz.f18 [.pointer none, .int .i64 p] R w = sx18n p R w) h)

/- (*reprise/source.Source).Read -/
def sx21n (p : Int) (from2 : Int) (most : Int) (R : Ending → World → Prop) (w : World) : Prop :=
  CallsW Tryz.prog 34 [.pointer none, .int .i64 p] w (RetR R fun u2 w1 => ∃ (p3 : Option Addr) (n4 : Int), u2 = .tuple #[.pointer p3, .int .i64 n4] ∧ (((n4 != 0) = true → R (.returned (.tuple #[.slice none 0 0, .int .i64
    n4])) w1) ∧ ((n4 != 0) = false → (((decide (from2 < 0)) = true → R (.returned (.tuple #[.slice none 0 0, .int .i64 1])) w1) ∧ ((decide (from2 < 0)) = false → withSome p3 (fun d6 => ∃ (a7 : Option Addr) (l7 c7 : Nat),
    w1.cell? d6 = some (.slice a7 l7 c7) ∧ (((decide (from2 > ((l7 : Nat) : Int))) = true → R (.returned (.tuple #[.slice none 0 0, .int .i64 1])) w1) ∧ ((decide (from2 > ((l7 : Nat) : Int))) = false → (((decide (most <
    0)) = true → R (.returned (.tuple #[.slice none 0 0, .int .i64 1])) w1) ∧ ((decide (most < 0)) = false → withSome p3 (fun d8 => ∃ (b9 : Bool), w1.cell? (Addr.add d8 1) = some (.bool b9) ∧ ((b9 = true → R (.returned
    (.tuple #[.slice none 0 0, .int .i64 63])) w1) ∧ (b9 = false → withSome p3 (fun d10 => ∃ (a11 : Option Addr) (l11 c11 : Nat), w1.cell? d10 = some (.slice a11 l11 c11) ∧ (0 ≤ from2 ∧ from2 ≤ (l11 : Nat)) ∧ (0 ≤ (if
    (((l11 - from2.toNat : Nat) : Int) : Int) < most then ((l11 - from2.toNat : Nat) : Int) else most) ∧ (if (((l11 - from2.toNat : Nat) : Int) : Int) < most then ((l11 - from2.toNat : Nat) : Int) else most) ≤ (c11 -
    from2.toNat : Nat)) ∧ CallsW Tryz.prog 35 [.slice (if c11 = from2.toNat then a11 else Option.map (fun x => Addr.add x (from2.toNat * 2)) a11) ((if (((l11 - from2.toNat : Nat) : Int) : Int) < most then ((l11 -
    from2.toNat : Nat) : Int) else most).toNat) (c11 - from2.toNat)] w1 (RetR R fun u13 w12 => ∃ (a14 : Option Addr) (l14 c14 : Nat), u13 = .slice a14 l14 c14 ∧ R (.returned (.tuple #[.slice a14 l14 c14, .int .i64 0]))
    w12)))))))))))))))
theorem sx21n.ok {p : Int} {from2 : Int} {most : Int} {R : Ending → World → Prop} {w : World} (h : sx21n p from2 most R w) : CallsW Tryz.prog 21 [.pointer none, .int .i64 p, .int .i64 from2, .int .i64 most] w R :=
  callsW_of mix Tryz.func21 (by kernel_rfl) (by kernel_rfl) (Eq.mpr (by kernel_rfl : denFn Tryz.prog {} Tryz.f21 [.pointer none, .int .i64 p, .int .i64 from2, .int .i64 most] R w = sx21n p from2 most R w) h)

/- (*reprise/source.Source).Log -/
def sx14n (p : Int) (R : Ending → World → Prop) (w : World) : Prop :=
  CallsW Tryz.prog 34 [.pointer none, .int .i64 p] w (RetR R fun u2 w1 => ∃ (p3 : Option Addr) (n4 : Int), u2 = .tuple #[.pointer p3, .int .i64 n4] ∧ (((n4 != 0) = true → R (.returned (.slice none 0 0)) w1) ∧ ((n4 != 0) =
    false → withSome p3 (fun d6 => ∃ (a7 : Option Addr) (l7 c7 : Nat), w1.cell? d6 = some (.slice a7 l7 c7) ∧ CallsW Tryz.prog 35 [.slice a7 l7 c7] w1 (RetR R fun u9 w8 => ∃ (a10 : Option Addr) (l10 c10 : Nat), u9 = .slice
    a10 l10 c10 ∧ R (.returned (.slice a10 l10 c10)) w8)))))
theorem sx14n.ok {p : Int} {R : Ending → World → Prop} {w : World} (h : sx14n p R w) : CallsW Tryz.prog 14 [.pointer none, .int .i64 p] w R :=
  callsW_of mix Tryz.func14 (by kernel_rfl) (by kernel_rfl) (Eq.mpr (by kernel_rfl : denFn Tryz.prog {} Tryz.f14 [.pointer none, .int .i64 p] R w = sx14n p R w) h)

/- (*reprise/source.Source).Keys -/
def sx9n  (R : Ending → World → Prop) (w : World) : Prop :=
  R (.returned (.slice none 0 0)) w
theorem sx9n.ok  {R : Ending → World → Prop} {w : World} (h : sx9n  R w) : CallsW Tryz.prog 9 [.pointer none] w R :=
  callsW_of mix Tryz.func9 (by kernel_rfl) (by kernel_rfl) (Eq.mpr (by kernel_rfl : denFn Tryz.prog { known := [4] } Tryz.f9 [.pointer none] R w = sx9n  R w) h)

/- (*reprise/repriseref06.Source).has -/
def sx36n (p : Int) (R : Ending → World → Prop) (w : World) : Prop :=
  R (.returned (.bool false)) w
theorem sx36n.ok {p : Int} {R : Ending → World → Prop} {w : World} (h : sx36n p R w) : CallsW Tryz.prog 36 [.pointer none, .int .i64 p] w R :=
  callsW_of mix Tryz.func36 (by kernel_rfl) (by kernel_rfl) (Eq.mpr (by kernel_rfl : denFn Tryz.prog { known := [6] } Tryz.f36 [.pointer none, .int .i64 p] R w = sx36n p R w) h)

/- (*reprise/repriseref06.Source).Produce -/
def sx25n (i : Int) (p2_0 : Int) (p2_1 : Nat) (R : Ending → World → Prop) (w : World) : Prop :=
  ∀ w1, Grew w w1 → R (.returned (.int .i64 2)) w1
theorem sx25n.ok {i : Int} {p2_0 : Int} {p2_1 : Nat} {R : Ending → World → Prop} {w : World} (h : sx25n i p2_0 p2_1 R w) : CallsW Tryz.prog 25 [.pointer none, .int .i64 i, .agg #[.int .u64 p2_0, .float .f64 p2_1]] w R :=
  callsW_of mix Tryz.func25 (by kernel_rfl) (by kernel_rfl) (Eq.mpr (by kernel_rfl : denFn Tryz.prog { locals := [5], known := [12] } Tryz.f25 [.pointer none, .int .i64 i, .agg #[.int .u64 p2_0, .float .f64 p2_1]] R w = sx25n i p2_0 p2_1 R w) h)

/- (*reprise/repriseref06.Source).Switch -/
def sx27n (p : Int) (on : Bool) (R : Ending → World → Prop) (w : World) : Prop :=
  R (.returned (.int .i64 2)) w
theorem sx27n.ok {p : Int} {on : Bool} {R : Ending → World → Prop} {w : World} (h : sx27n p on R w) : CallsW Tryz.prog 27 [.pointer none, .int .i64 p, .bool on] w R :=
  callsW_of mix Tryz.func27 (by kernel_rfl) (by kernel_rfl) (Eq.mpr (by kernel_rfl : denFn Tryz.prog { known := [8] } Tryz.f27 [.pointer none, .int .i64 p, .bool on] R w = sx27n p on R w) h)

/- (*reprise/repriseref06.Source).Parts -/
def sx12n  (R : Ending → World → Prop) (w : World) : Prop :=
  R (.returned (.int .i64 0)) w
theorem sx12n.ok  {R : Ending → World → Prop} {w : World} (h : sx12n  R w) : CallsW Tryz.prog 12 [.pointer none] w R :=
  callsW_of mix Tryz.func12 (by kernel_rfl) (by kernel_rfl) (Eq.mpr (by kernel_rfl : denFn Tryz.prog { known := [4] } Tryz.f12 [.pointer none] R w = sx12n  R w) h)

/- (*reprise/repriseref06.Source).Up -/
def sx17n (p : Int) (R : Ending → World → Prop) (w : World) : Prop :=
  CallsW Tryz.prog 36 [.pointer none, .int .i64 p] w (RetR R fun u2 w1 => ∃ (b3 : Bool), u2 = .bool b3 ∧ ((b3 = true → False) ∧ (b3 = false → R (.returned (.bool false)) w1)))
theorem sx17n.ok {p : Int} {R : Ending → World → Prop} {w : World} (h : sx17n p R w) : CallsW Tryz.prog 17 [.pointer none, .int .i64 p] w R :=
  callsW_of mix Tryz.func17 (by kernel_rfl) (by kernel_rfl) (Eq.mpr (by kernel_rfl : denFn Tryz.prog {} Tryz.f17 [.pointer none, .int .i64 p] R w = sx17n p R w) h)

/- (*reprise/repriseref06.Source).Len -/
def sx19n (p : Int) (R : Ending → World → Prop) (w : World) : Prop :=
  CallsW Tryz.prog 36 [.pointer none, .int .i64 p] w (RetR R fun u2 w1 => ∃ (b3 : Bool), u2 = .bool b3 ∧ (((!b3) = true → R (.returned (.int .i64 0)) w1) ∧ ((!b3) = false → False)))
theorem sx19n.ok {p : Int} {R : Ending → World → Prop} {w : World} (h : sx19n p R w) : CallsW Tryz.prog 19 [.pointer none, .int .i64 p] w R :=
  callsW_of mix Tryz.func19 (by kernel_rfl) (by kernel_rfl) (Eq.mpr (by kernel_rfl : denFn Tryz.prog {} Tryz.f19 [.pointer none, .int .i64 p] R w = sx19n p R w) h)

/- (*reprise/repriseref06.Source).Read -/
def sx28n (i : Int) (p2 : Int) (p3 : Int) (R : Ending → World → Prop) (w : World) : Prop :=
  R (.returned (.tuple #[.slice none 0 0, .int .i64 2])) w
theorem sx28n.ok {i : Int} {p2 : Int} {p3 : Int} {R : Ending → World → Prop} {w : World} (h : sx28n i p2 p3 R w) : CallsW Tryz.prog 28 [.pointer none, .int .i64 i, .int .i64 p2, .int .i64 p3] w R :=
  callsW_of mix Tryz.func28 (by kernel_rfl) (by kernel_rfl) (Eq.mpr (by kernel_rfl : denFn Tryz.prog { known := [14] } Tryz.f28 [.pointer none, .int .i64 i, .int .i64 p2, .int .i64 p3] R w = sx28n i p2 p3 R w) h)

/- (*reprise/repriseref06.Source).Log -/
def sx15n (p : Int) (R : Ending → World → Prop) (w : World) : Prop :=
  ∀ (b1 : Nat) (w2 : World), Alloc w w2 b1 (.cells #[] 38) → CallsW Tryz.prog 36 [.pointer none, .int .i64 p] w2 (RetR R fun u4 w3 => ∃ (b5 : Bool), u4 = .bool b5 ∧ ((b5 = true → False) ∧ (b5 = false → R (.returned (.slice
    (some ⟨b1, 0, none⟩) 0 0)) w3)))
theorem sx15n.ok {p : Int} {R : Ending → World → Prop} {w : World} (h : sx15n p R w) : CallsW Tryz.prog 15 [.pointer none, .int .i64 p] w R :=
  callsW_of mix Tryz.func15 (by kernel_rfl) (by kernel_rfl) (Eq.mpr (by kernel_rfl : denFn Tryz.prog {} Tryz.f15 [.pointer none, .int .i64 p] R w = sx15n p R w) h)

/- (*reprise/repriseref06.Source).Keys -/
def sx10n  (R : Ending → World → Prop) (w : World) : Prop :=
  ∀ (b1 : Nat) (w2 : World), Alloc w w2 b1 (.cells #[] 35) → ∃ (I3 : Option Addr → Nat → Nat → Int → World → Prop) (m3 : Option Addr → Nat → Nat → Int → World → Nat), I3 (some ⟨b1, 0, none⟩) 0 0 0 w2 ∧ ∀ (a4 : Option Addr)
    (l4 c4 : Nat) (n5 : Int) (w6 : World), I3 a4 l4 c4 n5 w6 → CallsW Tryz.prog 12 [.pointer none] w6 (RetR R fun u8 w7 => ∃ (n9 : Int), u8 = .int .i64 n9 ∧ (((decide (n5 < n9)) = true → ∃ (I11 : Option Addr → Nat → Nat →
    Int → World → Prop) (m11 : Option Addr → Nat → Nat → Int → World → Nat), I11 a4 l4 c4 0 w7 ∧ ∀ (a12 : Option Addr) (l12 c12 : Nat) (n13 : Int) (w14 : World), I11 a12 l12 c12 n13 w14 → False) ∧ ((decide (n5 < n9)) =
    false → R (.returned (.slice a4 l4 c4)) w7)))
theorem sx10n.ok  {R : Ending → World → Prop} {w : World} (h : sx10n  R w) : CallsW Tryz.prog 10 [.pointer none] w R :=
  callsW_of mix Tryz.func10 (by kernel_rfl) (by kernel_rfl) (Eq.mpr (by kernel_rfl : denFn Tryz.prog { loops := [(6, { slots := [(3, .slice), (5, .int .i64)], cells := [] }), (1003, { slots := [(3, .slice), (4, .int .i64)], cells := [] })] } Tryz.f10 [.pointer none] R w = sx10n  R w) h)

/- reprise/repriselaw06.right -/
def sx7n (p2_0 : Int) (p2_1 : Int) (p2_2 : Int) (p2_3 : Int) (p2_4 : Int) (p2_5 : Int) (p2_6 : Nat) (R : Ending → World → Prop) (w : World) : Prop :=
  ∀ w1, Grew w w1 → (((p2_0 == 1) = true → ∀ w2, Grew w1 w2 → CallsW Tryz.prog 20 [.pointer none, .int .i64 p2_2, .agg #[.int .u64 p2_5, .float .f64 p2_6]] w2 (RetR R fun u4 w3 => ∃ (n5 : Int), u4 = .int .i64 n5 ∧ SameB w2
    w3 [] ∧ CallsW Tryz.prog 25 [.pointer none, .int .i64 p2_2, .agg #[.int .u64 p2_5, .float .f64 p2_6]] w3 (RetR R fun u8 w7 => ∃ (n9 : Int), u8 = .int .i64 n9 ∧ R (.returned (.bool (n5 == n9))) w7))) ∧ ((p2_0 == 1) =
    false → (((p2_0 == 2) = true → ∀ w11, Grew w1 w11 → CallsW Tryz.prog 26 [.pointer none, .int .i64 p2_2, .bool (p2_4 != 0)] w11 (RetR R fun u13 w12 => ∃ (n14 : Int), u13 = .int .i64 n14 ∧ SameB w11 w12 [] ∧ CallsW
    Tryz.prog 27 [.pointer none, .int .i64 p2_2, .bool (p2_4 != 0)] w12 (RetR R fun u17 w16 => ∃ (n18 : Int), u17 = .int .i64 n18 ∧ R (.returned (.bool (n14 == n18))) w16))) ∧ ((p2_0 == 2) = false → (((p2_0 == 3) = true →
    ∀ w20, Grew w1 w20 → CallsW Tryz.prog 16 [.pointer none, .int .i64 p2_2] w20 (RetR R fun u22 w21 => ∃ (b23 : Bool), u22 = .bool b23 ∧ SameB w20 w21 [] ∧ CallsW Tryz.prog 17 [.pointer none, .int .i64 p2_2] w21 (RetR R
    fun u26 w25 => ∃ (b27 : Bool), u26 = .bool b27 ∧ (((b23 == b27) = true → CallsW Tryz.prog 18 [.pointer none, .int .i64 p2_2] w25 (RetR R fun u30 w29 => ∃ (n31 : Int), u30 = .int .i64 n31 ∧ SameB w25 w29 [] ∧ CallsW
    Tryz.prog 19 [.pointer none, .int .i64 p2_2] w29 (RetR R fun u34 w33 => ∃ (n35 : Int), u34 = .int .i64 n35 ∧ SameB w29 w33 [] ∧ (((n31 == n35) = true → CallsW Tryz.prog 11 [.pointer none] w33 (RetR R fun u38 w37 => ∃
    (n39 : Int), u38 = .int .i64 n39 ∧ SameB w33 w37 [] ∧ CallsW Tryz.prog 12 [.pointer none] w37 (RetR R fun u42 w41 => ∃ (n43 : Int), u42 = .int .i64 n43 ∧ SameB w37 w41 [] ∧ R (.returned (.bool (n39 == n43))) w41))) ∧
    ((n31 == n35) = false → R (.returned (.bool false)) w33))))) ∧ ((b23 == b27) = false → R (.returned (.bool false)) w25))))) ∧ ((p2_0 == 3) = false → (((p2_0 == 4) = true → CallsW Tryz.prog 21 [.pointer none, .int .i64
    p2_2, .int .i64 p2_3, .int .i64 p2_4] w1 (RetR R fun u46 w45 => ∃ (a47 : Option Addr) (l47 c47 : Nat) (n48 : Int), u46 = .tuple #[.slice a47 l47 c47, .int .i64 n48] ∧ CallsW Tryz.prog 28 [.pointer none, .int .i64 p2_2,
    .int .i64 p2_3, .int .i64 p2_4] w45 (RetR R fun u51 w50 => ∃ (a52 : Option Addr) (l52 c52 : Nat) (n53 : Int), u51 = .tuple #[.slice a52 l52 c52, .int .i64 n53] ∧ (((n48 == n53) = true → CallsW Tryz.prog 13 [.slice a47
    l47 c47, .slice a52 l52 c52] w50 (RetR R fun u56 w55 => ∃ (b57 : Bool), u56 = .bool b57 ∧ R (.returned (.bool b57)) w55)) ∧ ((n48 == n53) = false → R (.returned (.bool false)) w50))))) ∧ ((p2_0 == 4) = false → (((p2_0
    == 5) = true → ∀ w59, Grew w1 w59 → CallsW Tryz.prog 14 [.pointer none, .int .i64 p2_2] w59 (RetR R fun u61 w60 => ∃ (a62 : Option Addr) (l62 c62 : Nat), u61 = .slice a62 l62 c62 ∧ SameB w59 w60 [] ∧ CallsW Tryz.prog 15
    [.pointer none, .int .i64 p2_2] w60 (RetR R fun u65 w64 => ∃ (a66 : Option Addr) (l66 c66 : Nat), u65 = .slice a66 l66 c66 ∧ CallsW Tryz.prog 13 [.slice a62 l62 c62, .slice a66 l66 c66] w64 (RetR R fun u69 w68 => ∃
    (b70 : Bool), u69 = .bool b70 ∧ R (.returned (.bool b70)) w68)))) ∧ ((p2_0 == 5) = false → (((p2_0 == 6) = true → CallsW Tryz.prog 9 [.pointer none] w1 (RetR R fun u73 w72 => ∃ (a74 : Option Addr) (l74 c74 : Nat), u73
    = .slice a74 l74 c74 ∧ CallsW Tryz.prog 10 [.pointer none] w72 (RetR R fun u77 w76 => ∃ (a78 : Option Addr) (l78 c78 : Nat), u77 = .slice a78 l78 c78 ∧ CallsW Tryz.prog 8 [.slice a74 l74 c74, .slice a78 l78 c78] w76
    (RetR R fun u81 w80 => ∃ (b82 : Bool), u81 = .bool b82 ∧ R (.returned (.bool b82)) w80)))) ∧ ((p2_0 == 6) = false → R (.returned (.bool true)) w1))))))))))))
theorem sx7n.ok {p2_0 : Int} {p2_1 : Int} {p2_2 : Int} {p2_3 : Int} {p2_4 : Int} {p2_5 : Int} {p2_6 : Nat} {R : Ending → World → Prop} {w : World} (h : sx7n p2_0 p2_1 p2_2 p2_3 p2_4 p2_5 p2_6 R w) : CallsW Tryz.prog 7 [.pointer none, .pointer none, .agg #[.int .i64 p2_0, .int .i64 p2_1, .int .i64 p2_2, .int .i64 p2_3, .int .i64 p2_4, .int .u64 p2_5, .float .f64 p2_6]] w R :=
  callsW_of mix Tryz.func7 (by kernel_rfl) (by kernel_rfl) (Eq.mpr (by kernel_rfl : denFn Tryz.prog { locals := [5], draws := [(3, { order := (.cons 0 (.cons 1 (.cons 2 (.cons 3 (.cons 4 (.cons 6 (.cons 7 (.cons 8 (.cons 9 (.cons 10 (.cons 5 (.cons 11 (.cons 12 (.cons 13 .nil)))))))))))))), bars := [11] }), (5, { order := (.cons 0 (.cons 1 (.cons 2 (.cons 3 (.cons 4 (.cons 5 (.cons 7 (.cons 8 (.cons 9 (.cons 10 (.cons 11 (.cons 12 (.cons 6 (.cons 13 (.cons 14 (.cons 15 .nil)))))))))))))))), bars := [13] }), (7, { order := (.cons 0 (.cons 1 (.cons 2 (.cons 4 (.cons 5 (.cons 6 (.cons 3 (.cons 7 (.cons 8 (.cons 9 (.cons 10 (.cons 11 (.cons 12 (.cons 14 (.cons 15 (.cons 16 (.cons 13 (.cons 17 (.cons 18 (.cons 19 (.cons 20 (.cons 21 (.cons 23 (.cons 22 (.cons 24 (.cons 25 (.cons 26 (.cons 27 .nil)))))))))))))))))))))))))))), bars := [7] }), (13, { order := (.cons 0 (.cons 1 (.cons 2 (.cons 4 (.cons 5 (.cons 6 (.cons 3 (.cons 7 (.cons 8 (.cons 9 .nil)))))))))), bars := [7, 8] })] } Tryz.f7 [.pointer none, .pointer none, .agg #[.int .i64 p2_0, .int .i64 p2_1, .int .i64 p2_2, .int .i64 p2_3, .int .i64 p2_4, .int .u64 p2_5, .float .f64 p2_6]] R w = sx7n p2_0 p2_1 p2_2 p2_3 p2_4 p2_5 p2_6 R w) h)

/- reprise/repriselaw06.right -/
def sx7 (d : Nat) (i : Nat) (p2_0 : Int) (p2_1 : Int) (p2_2 : Int) (p2_3 : Int) (p2_4 : Int) (p2_5 : Int) (p2_6 : Nat) (R : Ending → World → Prop) (w : World) : Prop :=
  ∀ w1, Grew w w1 → (((p2_0 == 1) = true → ∀ w2, Grew w1 w2 → CallsW Tryz.prog 20 [.pointer (some ⟨d, 0, none⟩), .int .i64 p2_2, .agg #[.int .u64 p2_5, .float .f64 p2_6]] w2 (RetR R fun u4 w3 => ∃ (n5 : Int), u4 = .int .i64
    n5 ∧ SameB w2 w3 [] ∧ CallsW Tryz.prog 25 [.pointer (some ⟨i, 0, none⟩), .int .i64 p2_2, .agg #[.int .u64 p2_5, .float .f64 p2_6]] w3 (RetR R fun u8 w7 => ∃ (n9 : Int), u8 = .int .i64 n9 ∧ R (.returned (.bool (n5 ==
    n9))) w7))) ∧ ((p2_0 == 1) = false → (((p2_0 == 2) = true → ∀ w11, Grew w1 w11 → CallsW Tryz.prog 26 [.pointer (some ⟨d, 0, none⟩), .int .i64 p2_2, .bool (p2_4 != 0)] w11 (RetR R fun u13 w12 => ∃ (n14 : Int), u13 =
    .int .i64 n14 ∧ SameB w11 w12 [] ∧ CallsW Tryz.prog 27 [.pointer (some ⟨i, 0, none⟩), .int .i64 p2_2, .bool (p2_4 != 0)] w12 (RetR R fun u17 w16 => ∃ (n18 : Int), u17 = .int .i64 n18 ∧ R (.returned (.bool (n14 ==
    n18))) w16))) ∧ ((p2_0 == 2) = false → (((p2_0 == 3) = true → ∀ w20, Grew w1 w20 → CallsW Tryz.prog 16 [.pointer (some ⟨d, 0, none⟩), .int .i64 p2_2] w20 (RetR R fun u22 w21 => ∃ (b23 : Bool), u22 = .bool b23 ∧ SameB
    w20 w21 [] ∧ CallsW Tryz.prog 17 [.pointer (some ⟨i, 0, none⟩), .int .i64 p2_2] w21 (RetR R fun u26 w25 => ∃ (b27 : Bool), u26 = .bool b27 ∧ (((b23 == b27) = true → CallsW Tryz.prog 18 [.pointer (some ⟨d, 0, none⟩),
    .int .i64 p2_2] w25 (RetR R fun u30 w29 => ∃ (n31 : Int), u30 = .int .i64 n31 ∧ SameB w25 w29 [] ∧ CallsW Tryz.prog 19 [.pointer (some ⟨i, 0, none⟩), .int .i64 p2_2] w29 (RetR R fun u34 w33 => ∃ (n35 : Int), u34 = .int
    .i64 n35 ∧ SameB w29 w33 [] ∧ (((n31 == n35) = true → CallsW Tryz.prog 11 [.pointer (some ⟨d, 0, none⟩)] w33 (RetR R fun u38 w37 => ∃ (n39 : Int), u38 = .int .i64 n39 ∧ SameB w33 w37 [] ∧ CallsW Tryz.prog 12 [.pointer
    (some ⟨i, 0, none⟩)] w37 (RetR R fun u42 w41 => ∃ (n43 : Int), u42 = .int .i64 n43 ∧ SameB w37 w41 [] ∧ R (.returned (.bool (n39 == n43))) w41))) ∧ ((n31 == n35) = false → R (.returned (.bool false)) w33))))) ∧ ((b23
    == b27) = false → R (.returned (.bool false)) w25))))) ∧ ((p2_0 == 3) = false → (((p2_0 == 4) = true → CallsW Tryz.prog 21 [.pointer (some ⟨d, 0, none⟩), .int .i64 p2_2, .int .i64 p2_3, .int .i64 p2_4] w1 (RetR R fun
    u46 w45 => ∃ (a47 : Option Addr) (l47 c47 : Nat) (n48 : Int), u46 = .tuple #[.slice a47 l47 c47, .int .i64 n48] ∧ CallsW Tryz.prog 28 [.pointer (some ⟨i, 0, none⟩), .int .i64 p2_2, .int .i64 p2_3, .int .i64 p2_4] w45
    (RetR R fun u51 w50 => ∃ (a52 : Option Addr) (l52 c52 : Nat) (n53 : Int), u51 = .tuple #[.slice a52 l52 c52, .int .i64 n53] ∧ (((n48 == n53) = true → CallsW Tryz.prog 13 [.slice a47 l47 c47, .slice a52 l52 c52] w50
    (RetR R fun u56 w55 => ∃ (b57 : Bool), u56 = .bool b57 ∧ R (.returned (.bool b57)) w55)) ∧ ((n48 == n53) = false → R (.returned (.bool false)) w50))))) ∧ ((p2_0 == 4) = false → (((p2_0 == 5) = true → ∀ w59, Grew w1
    w59 → CallsW Tryz.prog 14 [.pointer (some ⟨d, 0, none⟩), .int .i64 p2_2] w59 (RetR R fun u61 w60 => ∃ (a62 : Option Addr) (l62 c62 : Nat), u61 = .slice a62 l62 c62 ∧ SameB w59 w60 [] ∧ CallsW Tryz.prog 15 [.pointer
    (some ⟨i, 0, none⟩), .int .i64 p2_2] w60 (RetR R fun u65 w64 => ∃ (a66 : Option Addr) (l66 c66 : Nat), u65 = .slice a66 l66 c66 ∧ CallsW Tryz.prog 13 [.slice a62 l62 c62, .slice a66 l66 c66] w64 (RetR R fun u69 w68 =>
    ∃ (b70 : Bool), u69 = .bool b70 ∧ R (.returned (.bool b70)) w68)))) ∧ ((p2_0 == 5) = false → (((p2_0 == 6) = true → CallsW Tryz.prog 9 [.pointer (some ⟨d, 0, none⟩)] w1 (RetR R fun u73 w72 => ∃ (a74 : Option Addr) (l74
    c74 : Nat), u73 = .slice a74 l74 c74 ∧ CallsW Tryz.prog 10 [.pointer (some ⟨i, 0, none⟩)] w72 (RetR R fun u77 w76 => ∃ (a78 : Option Addr) (l78 c78 : Nat), u77 = .slice a78 l78 c78 ∧ CallsW Tryz.prog 8 [.slice a74 l74
    c74, .slice a78 l78 c78] w76 (RetR R fun u81 w80 => ∃ (b82 : Bool), u81 = .bool b82 ∧ R (.returned (.bool b82)) w80)))) ∧ ((p2_0 == 6) = false → R (.returned (.bool true)) w1))))))))))))
theorem sx7.ok {d : Nat} {i : Nat} {p2_0 : Int} {p2_1 : Int} {p2_2 : Int} {p2_3 : Int} {p2_4 : Int} {p2_5 : Int} {p2_6 : Nat} {R : Ending → World → Prop} {w : World} (h : sx7 d i p2_0 p2_1 p2_2 p2_3 p2_4 p2_5 p2_6 R w) : CallsW Tryz.prog 7 [.pointer (some ⟨d, 0, none⟩), .pointer (some ⟨i, 0, none⟩), .agg #[.int .i64 p2_0, .int .i64 p2_1, .int .i64 p2_2, .int .i64 p2_3, .int .i64 p2_4, .int .u64 p2_5, .float .f64 p2_6]] w R :=
  callsW_of mix Tryz.func7 (by kernel_rfl) (by kernel_rfl) (Eq.mpr (by kernel_rfl : denFn Tryz.prog { locals := [5], draws := [(3, { order := (.cons 0 (.cons 1 (.cons 2 (.cons 3 (.cons 4 (.cons 6 (.cons 7 (.cons 8 (.cons 9 (.cons 10 (.cons 5 (.cons 11 (.cons 12 (.cons 13 .nil)))))))))))))), bars := [11] }), (5, { order := (.cons 0 (.cons 1 (.cons 2 (.cons 3 (.cons 4 (.cons 5 (.cons 7 (.cons 8 (.cons 9 (.cons 10 (.cons 11 (.cons 12 (.cons 6 (.cons 13 (.cons 14 (.cons 15 .nil)))))))))))))))), bars := [13] }), (7, { order := (.cons 0 (.cons 1 (.cons 2 (.cons 4 (.cons 5 (.cons 6 (.cons 3 (.cons 7 (.cons 8 (.cons 9 (.cons 10 (.cons 11 (.cons 12 (.cons 14 (.cons 15 (.cons 16 (.cons 13 (.cons 17 (.cons 18 (.cons 19 (.cons 20 (.cons 21 (.cons 23 (.cons 22 (.cons 24 (.cons 25 (.cons 26 (.cons 27 .nil)))))))))))))))))))))))))))), bars := [7] }), (13, { order := (.cons 0 (.cons 1 (.cons 2 (.cons 4 (.cons 5 (.cons 6 (.cons 3 (.cons 7 (.cons 8 (.cons 9 .nil)))))))))), bars := [7, 8] })] } Tryz.f7 [.pointer (some ⟨d, 0, none⟩), .pointer (some ⟨i, 0, none⟩), .agg #[.int .i64 p2_0, .int .i64 p2_1, .int .i64 p2_2, .int .i64 p2_3, .int .i64 p2_4, .int .u64 p2_5, .float .f64 p2_6]] R w = sx7 d i p2_0 p2_1 p2_2 p2_3 p2_4 p2_5 p2_6 R w) h)


/-! ### no source -/
theorem nfind_ok {p : Int} {w : World} : CallsW Tryz.prog 34 [.pointer none, .int .i64 p] w (Rets fun v w' => v = .tuple #[.pointer none, .int .i64 2] ∧ w' = w) := by
  refine sx34n.ok ?_
  unfold sx34n
  exact ⟨_, rfl, rfl, rfl⟩
theorem nProduce_ok {p : Int} {r : RecV} {w : World} : CallsW Tryz.prog 20 [.pointer none, .int .i64 p, r.v] w (Rets fun v w' => v = .int .i64 2 ∧ Grew w w') := by
  refine sx20n.ok ?_
  unfold sx20n
  intro w1 hg1
  refine nfind_ok.use fun v w2 ⟨hv, hw⟩ => ?_
  subst hv; subst hw
  exact ⟨_, _, rfl, fun _ => ⟨_, rfl, rfl, hg1⟩, fun h => (by cases h)⟩
theorem nSwitch_ok {p : Int} {on : Bool} {w : World} : CallsW Tryz.prog 26 [.pointer none, .int .i64 p, .bool on] w (Rets fun v w' => v = .int .i64 2 ∧ Grew w w') := by
  refine sx26n.ok ?_
  unfold sx26n
  refine nfind_ok.use fun v w2 ⟨hv, hw⟩ => ?_
  subst hv; subst hw
  exact ⟨_, _, rfl, fun h => (by cases h), fun _ => ⟨_, rfl, rfl, Grew.refl _⟩⟩
theorem nParts_ok {w : World} : CallsW Tryz.prog 11 [.pointer none] w (Rets fun v w' => v = .int .i64 0 ∧ w' = w) := by
  refine sx11n.ok ?_
  unfold sx11n
  exact ⟨_, rfl, rfl, rfl⟩
theorem nUp_ok {p : Int} {w : World} : CallsW Tryz.prog 16 [.pointer none, .int .i64 p] w (Rets fun v w' => v = .bool false ∧ w' = w) := by
  refine sx16n.ok ?_
  unfold sx16n
  refine nfind_ok.use fun v w2 ⟨hv, hw⟩ => ?_
  subst hv; subst hw
  exact ⟨_, _, rfl, fun h => (by cases h), fun _ => ⟨_, rfl, rfl, rfl⟩⟩
theorem nLen_ok {p : Int} {w : World} : CallsW Tryz.prog 18 [.pointer none, .int .i64 p] w (Rets fun v w' => v = .int .i64 0 ∧ w' = w) := by
  refine sx18n.ok ?_
  unfold sx18n
  refine nfind_ok.use fun v w2 ⟨hv, hw⟩ => ?_
  subst hv; subst hw
  exact ⟨_, _, rfl, fun _ => ⟨_, rfl, rfl, rfl⟩, fun h => (by cases h)⟩
theorem nRead_ok {p fr most : Int} {w : World} : CallsW Tryz.prog 21 [.pointer none, .int .i64 p, .int .i64 fr, .int .i64 most] w (Rets fun v w' => v = .tuple #[.slice none 0 0, .int .i64 2] ∧ w' = w) := by
  refine sx21n.ok ?_
  unfold sx21n
  refine nfind_ok.use fun v w2 ⟨hv, hw⟩ => ?_
  subst hv; subst hw
  exact ⟨_, _, rfl, fun _ => ⟨_, rfl, rfl, rfl⟩, fun h => (by cases h)⟩
theorem nLog_ok {p : Int} {w : World} : CallsW Tryz.prog 14 [.pointer none, .int .i64 p] w (Rets (Fresh w 38 Enc.rcd [])) := by
  refine sx14n.ok ?_
  unfold sx14n
  refine nfind_ok.use fun v w2 ⟨hv, hw⟩ => ?_
  subst hv; subst hw
  exact ⟨_, _, rfl, fun _ => ⟨_, rfl, none, 0, 0, rfl, Own.nil _ _ _ _, Grew.refl _⟩, fun h => (by cases h)⟩
theorem nKeys_ok {w : World} : CallsW Tryz.prog 9 [.pointer none] w (Rets (Fresh w 35 (Enc.int .u64) [])) := by
  refine sx9n.ok ?_
  unfold sx9n
  exact ⟨_, rfl, none, 0, 0, rfl, Own.nil _ _ _ _, Grew.refl _⟩
theorem rnhas_ok {p : Int} {w : World} : CallsW Tryz.prog 36 [.pointer none, .int .i64 p] w (Rets fun v w' => v = .bool false ∧ w' = w) := by
  refine sx36n.ok ?_
  unfold sx36n
  exact ⟨_, rfl, rfl, rfl⟩
theorem rnProduce_ok {p : Int} {r : RecV} {w : World} : CallsW Tryz.prog 25 [.pointer none, .int .i64 p, r.v] w (Rets fun v w' => v = .int .i64 2 ∧ Grew w w') := by
  refine sx25n.ok ?_
  unfold sx25n
  exact fun w1 hg1 => ⟨_, rfl, rfl, hg1⟩
theorem rnSwitch_ok {p : Int} {on : Bool} {w : World} : CallsW Tryz.prog 27 [.pointer none, .int .i64 p, .bool on] w (Rets fun v w' => v = .int .i64 2 ∧ Grew w w') := by
  refine sx27n.ok ?_
  unfold sx27n
  exact ⟨_, rfl, rfl, Grew.refl _⟩
theorem rnParts_ok {w : World} : CallsW Tryz.prog 12 [.pointer none] w (Rets fun v w' => v = .int .i64 0 ∧ w' = w) := by
  refine sx12n.ok ?_
  unfold sx12n
  exact ⟨_, rfl, rfl, rfl⟩
theorem rnUp_ok {p : Int} {w : World} : CallsW Tryz.prog 17 [.pointer none, .int .i64 p] w (Rets fun v w' => v = .bool false ∧ w' = w) := by
  refine sx17n.ok ?_
  unfold sx17n
  refine rnhas_ok.use fun v w2 ⟨hv, hw⟩ => ?_
  subst hv; subst hw
  exact ⟨_, rfl, fun h => (by cases h), fun _ => ⟨_, rfl, rfl, rfl⟩⟩
theorem rnLen_ok {p : Int} {w : World} : CallsW Tryz.prog 19 [.pointer none, .int .i64 p] w (Rets fun v w' => v = .int .i64 0 ∧ w' = w) := by
  refine sx19n.ok ?_
  unfold sx19n
  refine rnhas_ok.use fun v w2 ⟨hv, hw⟩ => ?_
  subst hv; subst hw
  exact ⟨_, rfl, fun _ => ⟨_, rfl, rfl, rfl⟩, fun h => (by cases h)⟩
theorem rnRead_ok {p fr most : Int} {w : World} : CallsW Tryz.prog 28 [.pointer none, .int .i64 p, .int .i64 fr, .int .i64 most] w (Rets fun v w' => v = .tuple #[.slice none 0 0, .int .i64 2] ∧ w' = w) := by
  refine sx28n.ok ?_
  unfold sx28n
  exact ⟨_, rfl, rfl, rfl⟩
theorem rnLog_ok {p : Int} {w : World} : CallsW Tryz.prog 15 [.pointer none, .int .i64 p] w (Rets (Fresh w 38 Enc.rcd [])) := by
  refine sx15n.ok ?_
  unfold sx15n
  intro b1 w2 hal
  refine rnhas_ok.use fun v w3 ⟨hv, hw⟩ => ?_
  subst hv; subst hw
  exact ⟨_, rfl, fun h => (by cases h), fun _ => ⟨_, rfl, _, _, _, rfl, Own.alloc (E := Enc.rcd) (l := []) hal (Nat.le_refl _) rfl (by decide), hal.grew⟩⟩
theorem rnKeys_ok {w : World} : CallsW Tryz.prog 10 [.pointer none] w (Rets (Fresh w 35 (Enc.int .u64) [])) := by
  refine sx10n.ok ?_
  unfold sx10n
  intro b1 w2 hal
  refine ⟨fun a l c p w' => a = some ⟨b1, 0, none⟩ ∧ l = 0 ∧ c = 0 ∧ p = 0 ∧ w' = w2, fun _ _ _ _ _ => 0, ⟨rfl, rfl, rfl, rfl, rfl⟩, ?_⟩
  rintro a4 l4 c4 n5 w6 ⟨rfl, rfl, rfl, rfl, rfl⟩
  refine rnParts_ok.use fun v w3 ⟨hv, hw⟩ => ?_
  subst hv; subst hw
  exact ⟨_, rfl, fun h => (by cases h), fun _ => ⟨_, rfl, _, _, _, rfl, Own.alloc (E := Enc.int .u64) (l := []) hal (Nat.le_refl _) rfl (by decide), hal.grew⟩⟩

/-! ### twins -/
abbrev Twin : Type := Option (SrcX × RSrcX × SrcV)
def TwinAt (w0 w : World) (pa pb : Option Addr) : Twin → Prop
  | none => pa = none ∧ pb = none
  | some (x, y, v) => pa = some ⟨x.p, 0, none⟩ ∧ pb = some ⟨y.q, 0, none⟩ ∧ SrA w w0.heap.size x v ∧ RSA w w0.heap.size y v ∧ ∀ b, x.Foot b → ¬ y.Foot b
def TFoot : Twin → Nat → Prop
  | none, _ => False
  | some (x, y, _), b => x.Foot b ∨ y.Foot b
def tUp (t : Twin) (p : Int) : Bool := match t with | none => false | some (_, _, v) => v.up p
def tLen (t : Twin) (p : Int) : Int := match t with | none => 0 | some (_, _, v) => v.len p
def tParts (t : Twin) : Int := match t with | none => 0 | some (_, _, v) => v.parts.length
def tLog (t : Twin) (p : Int) : List RecV := match t with | none => [] | some (_, _, v) => v.log p
def tRead (t : Twin) (p fr most : Int) : List RecV × Int := match t with | none => ([], 2) | some (_, _, v) => v.read p fr most
def tKeys (t : Twin) : List Int := match t with | none => [] | some (_, _, v) => sortL v.keys

theorem TwinAt.foot {w0 w : World} {pa pb : Option Addr} {t : Twin} (h : TwinAt w0 w pa pb t) {b : Nat} (hb : TFoot t b) : w0.heap.size ≤ b ∧ b < w.heap.size := by
  match t with
  | none => exact hb.elim
  | some (x, y, v) =>
    obtain ⟨-, -, h1, h2, -⟩ := h
    exact hb.elim (fun hb => h1.foot hb) (fun hb => h2.foot hb)
theorem TwinAt.upd {S : Nat → Prop} {w0 w w' : World} {pa pb : Option Addr} {t : Twin} (h : TwinAt w0 w pa pb t) (hu : Upd S w w') (hn : ∀ b, TFoot t b → ¬ S b) : TwinAt w0 w' pa pb t := by
  match t with
  | none => exact h
  | some (x, y, v) =>
    obtain ⟨e1, e2, h1, h2, h3⟩ := h
    exact ⟨e1, e2, h1.upd hu fun b hb => hn b (.inl hb), h2.upd hu fun b hb => hn b (.inr hb), h3⟩
theorem TwinAt.grew {w0 w w' : World} {pa pb : Option Addr} {t : Twin} (h : TwinAt w0 w pa pb t) (hg : Grew w w') : TwinAt w0 w' pa pb t := h.upd (hg.upd (S := fun _ => False)) fun _ _ h => h
/-- twins that went on -/
def Steps (w0 w : World) (pa pb : Option Addr) (t : Twin) (w' : World) : Prop := ∃ t', TwinAt w0 w' pa pb t' ∧ Upd (TFoot t) w w' ∧ ∀ b, TFoot t' b → TFoot t b ∨ w.heap.size ≤ b
theorem Steps.grew {w0 w w' : World} {pa pb : Option Addr} {t : Twin} (h : TwinAt w0 w pa pb t) (hg : Grew w w') : Steps w0 w pa pb t w' := ⟨t, h.grew hg, hg.upd, fun _ hb => .inl hb⟩
theorem log_len {v : SrcV} (h : v.Fits) (p : Int) : (v.log p).length ≤ 256 := by
  unfold SrcV.log
  cases hp : v.getP p with
  | none => simp
  | some q => exact (h.logs q (List.mem_of_getElem? (getP_some hp).2.2)).1
theorem read_len {v : SrcV} (h : v.Fits) (p fr most : Int) : (v.read p fr most).1.length ≤ 256 := by
  unfold SrcV.read
  cases hp : v.getP p with
  | none => simp
  | some q =>
    have := (h.logs q (List.mem_of_getElem? (getP_some hp).2.2)).1
    simp only
    split
    · simp
    · split
      · simp
      · simp only [List.length_take, List.length_drop]; omega
theorem tLog_len {w0 w : World} {pa pb : Option Addr} {t : Twin} (h : TwinAt w0 w pa pb t) (p : Int) : (tLog t p).length ≤ 256 := by
  match t with
  | none => simp [tLog]
  | some (x, y, v) => exact log_len h.2.2.1.fits p
theorem tRead_len {w0 w : World} {pa pb : Option Addr} {t : Twin} (h : TwinAt w0 w pa pb t) (p fr most : Int) : (tRead t p fr most).1.length ≤ 256 := by
  match t with
  | none => simp [tRead]
  | some (x, y, v) => exact read_len h.2.2.1.fits p fr most
theorem tKeys_len {w0 w : World} {pa pb : Option Addr} {t : Twin} (h : TwinAt w0 w pa pb t) : (tKeys t).length ≤ 64 := by
  match t with
  | none => simp [tKeys]
  | some (x, y, v) => have := h.2.2.1.fits.keys.2.1; simp only [tKeys]; rw [sortL_len]; exact this

section
variable {w0 w : World} {pa pb : Option Addr} {t : Twin} (h : TwinAt w0 w pa pb t)
include h
theorem tParts_ok : CallsW Tryz.prog 11 [.pointer pa] w (Rets fun u w' => u = .int .i64 (tParts t) ∧ w' = w) := by
  match t, h with
  | none, h => obtain ⟨rfl, rfl⟩ := h; exact nParts_ok
  | some (x, y, v), h => obtain ⟨rfl, rfl, h1, h2, -⟩ := h; exact SParts_ok h1
theorem tParts_okR : CallsW Tryz.prog 12 [.pointer pb] w (Rets fun u w' => u = .int .i64 (tParts t) ∧ w' = w) := by
  match t, h with
  | none, h => obtain ⟨rfl, rfl⟩ := h; exact rnParts_ok
  | some (x, y, v), h => obtain ⟨rfl, rfl, h1, h2, -⟩ := h; exact RParts_ok h2
theorem tUp_ok {p : Int} : CallsW Tryz.prog 16 [.pointer pa, .int .i64 p] w (Rets fun u w' => u = .bool (tUp t p) ∧ w' = w) := by
  match t, h with
  | none, h => obtain ⟨rfl, rfl⟩ := h; exact nUp_ok
  | some (x, y, v), h => obtain ⟨rfl, rfl, h1, h2, -⟩ := h; exact Up_ok h1
theorem tUp_okR {p : Int} : CallsW Tryz.prog 17 [.pointer pb, .int .i64 p] w (Rets fun u w' => u = .bool (tUp t p) ∧ w' = w) := by
  match t, h with
  | none, h => obtain ⟨rfl, rfl⟩ := h; exact rnUp_ok
  | some (x, y, v), h => obtain ⟨rfl, rfl, h1, h2, -⟩ := h; exact RUp_ok h2
theorem tLen_ok {p : Int} : CallsW Tryz.prog 18 [.pointer pa, .int .i64 p] w (Rets fun u w' => u = .int .i64 (tLen t p) ∧ w' = w) := by
  match t, h with
  | none, h => obtain ⟨rfl, rfl⟩ := h; exact nLen_ok
  | some (x, y, v), h => obtain ⟨rfl, rfl, h1, h2, -⟩ := h; exact SLen_ok h1
theorem tLen_okR {p : Int} : CallsW Tryz.prog 19 [.pointer pb, .int .i64 p] w (Rets fun u w' => u = .int .i64 (tLen t p) ∧ w' = w) := by
  match t, h with
  | none, h => obtain ⟨rfl, rfl⟩ := h; exact rnLen_ok
  | some (x, y, v), h => obtain ⟨rfl, rfl, h1, h2, -⟩ := h; exact RLen_ok h2
theorem tLog_ok {p : Int} : CallsW Tryz.prog 14 [.pointer pa, .int .i64 p] w (Rets (Fresh w 38 Enc.rcd (tLog t p))) := by
  match t, h with
  | none, h => obtain ⟨rfl, rfl⟩ := h; exact nLog_ok
  | some (x, y, v), h => obtain ⟨rfl, rfl, h1, h2, -⟩ := h; exact Log_ok h1
theorem tLog_okR {p : Int} : CallsW Tryz.prog 15 [.pointer pb, .int .i64 p] w (Rets (Fresh w 38 Enc.rcd (tLog t p))) := by
  match t, h with
  | none, h => obtain ⟨rfl, rfl⟩ := h; exact rnLog_ok
  | some (x, y, v), h => obtain ⟨rfl, rfl, h1, h2, -⟩ := h; exact RLog_ok h2
theorem tKeys_ok : CallsW Tryz.prog 9 [.pointer pa] w (Rets (Fresh w 35 (Enc.int .u64) (tKeys t))) := by
  match t, h with
  | none, h => obtain ⟨rfl, rfl⟩ := h; exact nKeys_ok
  | some (x, y, v), h => obtain ⟨rfl, rfl, h1, h2, -⟩ := h; exact SKeys_ok h1
theorem tKeys_okR : CallsW Tryz.prog 10 [.pointer pb] w (Rets (Fresh w 35 (Enc.int .u64) (tKeys t))) := by
  match t, h with
  | none, h => obtain ⟨rfl, rfl⟩ := h; exact rnKeys_ok
  | some (x, y, v), h => obtain ⟨rfl, rfl, h1, h2, -⟩ := h; exact RKeys_ok h2
theorem tRead_ok {p fr most : Int} : CallsW Tryz.prog 21 [.pointer pa, .int .i64 p, .int .i64 fr, .int .i64 most] w (Rets fun u w' => ∃ a n c, u = .tuple #[.slice a n c, .int .i64 (tRead t p fr most).2] ∧ Own w' w.heap.size 38 Enc.rcd a n c (tRead t p fr most).1 ∧ Grew w w') := by
  match t, h with
  | none, h =>
    obtain ⟨rfl, rfl⟩ := h
    refine nRead_ok.mono fun e w' ⟨v, he, hv, hw⟩ => ?_
    subst hv; subst hw
    exact ⟨_, he, none, 0, 0, rfl, Own.nil _ _ _ _, Grew.refl _⟩
  | some (x, y, v), h => obtain ⟨rfl, rfl, h1, h2, -⟩ := h; exact SRead_ok h1
theorem tRead_okR {p fr most : Int} : CallsW Tryz.prog 28 [.pointer pb, .int .i64 p, .int .i64 fr, .int .i64 most] w (Rets fun u w' => ∃ a n c, u = .tuple #[.slice a n c, .int .i64 (tRead t p fr most).2] ∧ Own w' w.heap.size 38 Enc.rcd a n c (tRead t p fr most).1 ∧ Grew w w') := by
  match t, h with
  | none, h =>
    obtain ⟨rfl, rfl⟩ := h
    refine rnRead_ok.mono fun e w' ⟨v, he, hv, hw⟩ => ?_
    subst hv; subst hw
    exact ⟨_, he, none, 0, 0, rfl, Own.nil _ _ _ _, Grew.refl _⟩
  | some (x, y, v), h => obtain ⟨rfl, rfl, h1, h2, -⟩ := h; exact RRead_ok h2
end

theorem both_moved {w0 w w1 w2 : World} {x : SrcX} {y : RSrcX} {v v' : SrcV} (hB : w0.heap.size ≤ w.heap.size) (h1 : SrA w w0.heap.size x v) (h2 : RSA w w0.heap.size y v) (hd : ∀ b, x.Foot b → ¬ y.Foot b) (hM : SrM w w0.heap.size x w1 v') (hR : RSM w1 w0.heap.size y w2 v') :
    Steps w0 w (some ⟨x.p, 0, none⟩) (some ⟨y.q, 0, none⟩) (some (x, y, v)) w2 := by
  obtain ⟨x', a1, a2, a3, a4⟩ := hM.out
  obtain ⟨y', b1, b2, b3, b4⟩ := hR.out
  have s1 := a3.size
  have hd' : ∀ b, x'.Foot b → ¬ y.Foot b := fun b hb hy => (a4 b hb).elim (fun hx => hd b hx hy) (fun hx => by have := (h2.foot hy).2; omega)
  refine ⟨some (x', y', v'), ⟨by rw [a2], by rw [b2], a1.upd b3 hd', b1, fun b hb hy => ?_⟩, (a3.mono fun b _ hb => .inl hb).trans (b3.mono fun b _ hb => .inr hb), fun b hb => ?_⟩
  · rcases b4 b hy with hy | hy
    · exact hd' b hb hy
    · have := (a1.foot hb).2; omega
  · rcases hb with hb | hb
    · exact (a4 b hb).imp .inl id
    · rcases b4 b hb with hb | hb
      · exact .inl (.inr hb)
      · exact .inr (by omega)

theorem rightS_ok {w0 w : World} {x : SrcX} {y : RSrcX} {v : SrcV} {o : Op7V} (h : TwinAt w0 w (some ⟨x.p, 0, none⟩) (some ⟨y.q, 0, none⟩) (some (x, y, v))) (hr : o.r.Fits) (hB : w0.heap.size ≤ w.heap.size) :
    CallsW Tryz.prog 7 [.pointer (some ⟨x.p, 0, none⟩), .pointer (some ⟨y.q, 0, none⟩), .agg (Enc.op7.f o).toArray] w (Rets fun u w' => u = .bool true ∧ Steps w0 w (some ⟨x.p, 0, none⟩) (some ⟨y.q, 0, none⟩) (some (x, y, v)) w') := by
  refine sx7.ok ?_
  unfold sx7
  have nb : ∀ {x y : World}, SameB x y [] := by intro x y; simp [SameB]
  have fin : ∀ {w' : World} {b : Bool}, b = true → Grew w w' → Rets (fun u w' => u = .bool true ∧ Steps w0 w (some ⟨x.p, 0, none⟩) (some ⟨y.q, 0, none⟩) (some (x, y, v)) w') (.returned (.bool b)) w' := fun hb hg => ⟨_, rfl, by rw [hb], Steps.grew h hg⟩
  intro w1 hg1
  refine ⟨fun _ w2 hg2 => ?_, fun _ => ⟨fun _ w11 hg11 => ?_, fun _ => ⟨fun _ w20 hg20 => ?_, fun _ => ⟨fun _ => ?_, fun _ => ⟨fun _ w59 hg59 => ?_, fun _ => ⟨fun _ => ?_, fun _ => fin rfl hg1⟩⟩⟩⟩⟩⟩
  · have hg2 := hg1.trans hg2
    obtain ⟨-, -, h1, h2, hd⟩ := h.grew hg2
    have s2 := hg2.size
    refine (Produce_ok (p := o.p) (r := o.r) h1 hr (by omega)).use fun u w3 ⟨hv, hM⟩ => ?_
    subst hv
    obtain ⟨x', a1, a2, a3, a4⟩ := hM.out
    have s3 := a3.size
    refine ⟨_, rfl, nb, (RProduce_ok (p := o.p) (r := o.r) (h2.upd a3 fun b hb hx => hd b hx hb) hr (by omega)).use fun u w7 ⟨hv, hR⟩ => ?_⟩
    subst hv
    obtain ⟨t', m1, m2, m3⟩ := both_moved (by omega) h1 h2 hd hM hR
    exact ⟨_, rfl, _, rfl, by simp, t', m1, hg2.then_upd m2, fun b hb => (m3 b hb).imp id (Nat.le_trans s2)⟩
  · have hg2 := hg1.trans hg11
    obtain ⟨-, -, h1, h2, hd⟩ := h.grew hg2
    have s2 := hg2.size
    refine (Switch_ok (p := o.p) (on := o.most != 0) h1).use fun u w3 ⟨hv, hM⟩ => ?_
    subst hv
    obtain ⟨x', a1, a2, a3, a4⟩ := hM.out
    have s3 := a3.size
    refine ⟨_, rfl, nb, (RSwitch_ok (p := o.p) (on := o.most != 0) (h2.upd a3 fun b hb hx => hd b hx hb)).use fun u w7 ⟨hv, hR⟩ => ?_⟩
    subst hv
    obtain ⟨t', m1, m2, m3⟩ := both_moved (by omega) h1 h2 hd hM hR
    exact ⟨_, rfl, _, rfl, by simp, t', m1, hg2.then_upd m2, fun b hb => (m3 b hb).imp id (Nat.le_trans s2)⟩
  · have hg20 := hg1.trans hg20
    have h20 := h.grew hg20
    refine (tUp_ok h20 (p := o.p)).use fun u w21 ⟨hv, hw⟩ => ?_
    subst hv; subst hw
    refine ⟨_, rfl, nb, (tUp_okR h20 (p := o.p)).use fun u w25 ⟨hv, hw⟩ => ?_⟩
    subst hv; subst hw
    refine ⟨_, rfl, fun _ => ?_, fun hh => (by simp at hh)⟩
    refine (tLen_ok h20 (p := o.p)).use fun u w29 ⟨hv, hw⟩ => ?_
    subst hv; subst hw
    refine ⟨_, rfl, nb, (tLen_okR h20 (p := o.p)).use fun u w33 ⟨hv, hw⟩ => ?_⟩
    subst hv; subst hw
    refine ⟨_, rfl, nb, fun _ => ?_, fun hh => (by simp at hh)⟩
    refine (tParts_ok h20).use fun u w37 ⟨hv, hw⟩ => ?_
    subst hv; subst hw
    refine ⟨_, rfl, nb, (tParts_okR h20).use fun u w41 ⟨hv, hw⟩ => ?_⟩
    subst hv; subst hw
    exact ⟨_, rfl, nb, fin (by simp) hg20⟩
  · refine (tRead_ok (h.grew hg1) (p := o.p) (fr := o.fr) (most := o.most)).use fun u w45 ⟨a47, l47, c47, hv, ho47, hg45⟩ => ?_
    subst hv
    have hg45' := hg1.trans hg45
    refine ⟨_, _, _, _, rfl, (tRead_okR (h.grew hg45') (p := o.p) (fr := o.fr) (most := o.most)).use fun u w50 ⟨a52, l52, c52, hv, ho52, hg50⟩ => ?_⟩
    subst hv
    refine ⟨_, _, _, _, rfl, fun _ => (records_ok (ho47.grew hg50).reads ho52.reads (by have := tRead_len h o.p o.fr o.most; omega)).use fun u w55 ⟨hv, hg55⟩ => ?_, fun hh => (by simp at hh)⟩
    subst hv
    exact ⟨_, rfl, fin rfl (hg45'.trans (hg50.trans hg55))⟩
  · have hg59 := hg1.trans hg59
    refine (tLog_ok (h.grew hg59) (p := o.p)).use fun u w60 ⟨a62, l62, c62, hv, ho62, hg60⟩ => ?_
    subst hv
    have hg60' := hg59.trans hg60
    refine ⟨_, _, _, rfl, nb, (tLog_okR (h.grew hg60') (p := o.p)).use fun u w64 ⟨a66, l66, c66, hv, ho66, hg64⟩ => ?_⟩
    subst hv
    refine ⟨_, _, _, rfl, (records_ok (ho62.grew hg64).reads ho66.reads (by have := tLog_len h o.p; omega)).use fun u w68 ⟨hv, hg68⟩ => ?_⟩
    subst hv
    exact ⟨_, rfl, fin rfl (hg60'.trans (hg64.trans hg68))⟩
  · refine (tKeys_ok (h.grew hg1)).use fun u w72 ⟨a74, l74, c74, hv, ho74, hg72⟩ => ?_
    subst hv
    have hg72' := hg1.trans hg72
    refine ⟨_, _, _, rfl, (tKeys_okR (h.grew hg72')).use fun u w76 ⟨a78, l78, c78, hv, ho78, hg76⟩ => ?_⟩
    subst hv
    refine ⟨_, _, _, rfl, (lkeys_ok (ho74.grew hg76).reads ho78.reads (by have := tKeys_len h; omega)).use fun u w80 ⟨hv, hg80⟩ => ?_⟩
    subst hv
    exact ⟨_, rfl, fin rfl (hg72'.trans (hg76.trans hg80))⟩

theorem rightN_ok {w0 w : World}  {o : Op7V} (h : TwinAt w0 w none none none) (hr : o.r.Fits) (hB : w0.heap.size ≤ w.heap.size) :
    CallsW Tryz.prog 7 [.pointer none, .pointer none, .agg (Enc.op7.f o).toArray] w (Rets fun u w' => u = .bool true ∧ Steps w0 w none none none w') := by
  refine sx7n.ok ?_
  unfold sx7n
  have nb : ∀ {x y : World}, SameB x y [] := by intro x y; simp [SameB]
  have fin : ∀ {w' : World} {b : Bool}, b = true → Grew w w' → Rets (fun u w' => u = .bool true ∧ Steps w0 w none none none w') (.returned (.bool b)) w' := fun hb hg => ⟨_, rfl, by rw [hb], Steps.grew h hg⟩
  intro w1 hg1
  refine ⟨fun _ w2 hg2 => ?_, fun _ => ⟨fun _ w11 hg11 => ?_, fun _ => ⟨fun _ w20 hg20 => ?_, fun _ => ⟨fun _ => ?_, fun _ => ⟨fun _ w59 hg59 => ?_, fun _ => ⟨fun _ => ?_, fun _ => fin rfl hg1⟩⟩⟩⟩⟩⟩
  · have hg2 := hg1.trans hg2
    refine (nProduce_ok (p := o.p) (r := o.r)).use fun u w3 ⟨hv, hg3⟩ => ?_
    subst hv
    refine ⟨_, rfl, nb, (rnProduce_ok (p := o.p) (r := o.r)).use fun u w7 ⟨hv, hg7⟩ => ?_⟩
    subst hv
    exact ⟨_, rfl, fin rfl (hg2.trans (hg3.trans hg7))⟩
  · have hg2 := hg1.trans hg11
    refine (nSwitch_ok (p := o.p) (on := o.most != 0)).use fun u w3 ⟨hv, hg3⟩ => ?_
    subst hv
    refine ⟨_, rfl, nb, (rnSwitch_ok (p := o.p) (on := o.most != 0)).use fun u w7 ⟨hv, hg7⟩ => ?_⟩
    subst hv
    exact ⟨_, rfl, fin rfl (hg2.trans (hg3.trans hg7))⟩
  · have hg20 := hg1.trans hg20
    have h20 := h.grew hg20
    refine (tUp_ok h20 (p := o.p)).use fun u w21 ⟨hv, hw⟩ => ?_
    subst hv; subst hw
    refine ⟨_, rfl, nb, (tUp_okR h20 (p := o.p)).use fun u w25 ⟨hv, hw⟩ => ?_⟩
    subst hv; subst hw
    refine ⟨_, rfl, fun _ => ?_, fun hh => (by simp at hh)⟩
    refine (tLen_ok h20 (p := o.p)).use fun u w29 ⟨hv, hw⟩ => ?_
    subst hv; subst hw
    refine ⟨_, rfl, nb, (tLen_okR h20 (p := o.p)).use fun u w33 ⟨hv, hw⟩ => ?_⟩
    subst hv; subst hw
    refine ⟨_, rfl, nb, fun _ => ?_, fun hh => (by simp at hh)⟩
    refine (tParts_ok h20).use fun u w37 ⟨hv, hw⟩ => ?_
    subst hv; subst hw
    refine ⟨_, rfl, nb, (tParts_okR h20).use fun u w41 ⟨hv, hw⟩ => ?_⟩
    subst hv; subst hw
    exact ⟨_, rfl, nb, fin (by simp) hg20⟩
  · refine (tRead_ok (h.grew hg1) (p := o.p) (fr := o.fr) (most := o.most)).use fun u w45 ⟨a47, l47, c47, hv, ho47, hg45⟩ => ?_
    subst hv
    have hg45' := hg1.trans hg45
    refine ⟨_, _, _, _, rfl, (tRead_okR (h.grew hg45') (p := o.p) (fr := o.fr) (most := o.most)).use fun u w50 ⟨a52, l52, c52, hv, ho52, hg50⟩ => ?_⟩
    subst hv
    refine ⟨_, _, _, _, rfl, fun _ => (records_ok (ho47.grew hg50).reads ho52.reads (by have := tRead_len h o.p o.fr o.most; omega)).use fun u w55 ⟨hv, hg55⟩ => ?_, fun hh => (by simp at hh)⟩
    subst hv
    exact ⟨_, rfl, fin rfl (hg45'.trans (hg50.trans hg55))⟩
  · have hg59 := hg1.trans hg59
    refine (tLog_ok (h.grew hg59) (p := o.p)).use fun u w60 ⟨a62, l62, c62, hv, ho62, hg60⟩ => ?_
    subst hv
    have hg60' := hg59.trans hg60
    refine ⟨_, _, _, rfl, nb, (tLog_okR (h.grew hg60') (p := o.p)).use fun u w64 ⟨a66, l66, c66, hv, ho66, hg64⟩ => ?_⟩
    subst hv
    refine ⟨_, _, _, rfl, (records_ok (ho62.grew hg64).reads ho66.reads (by have := tLog_len h o.p; omega)).use fun u w68 ⟨hv, hg68⟩ => ?_⟩
    subst hv
    exact ⟨_, rfl, fin rfl (hg60'.trans (hg64.trans hg68))⟩
  · refine (tKeys_ok (h.grew hg1)).use fun u w72 ⟨a74, l74, c74, hv, ho74, hg72⟩ => ?_
    subst hv
    have hg72' := hg1.trans hg72
    refine ⟨_, _, _, rfl, (tKeys_okR (h.grew hg72')).use fun u w76 ⟨a78, l78, c78, hv, ho78, hg76⟩ => ?_⟩
    subst hv
    refine ⟨_, _, _, rfl, (lkeys_ok (ho74.grew hg76).reads ho78.reads (by have := tKeys_len h; omega)).use fun u w80 ⟨hv, hg80⟩ => ?_⟩
    subst hv
    exact ⟨_, rfl, fin rfl (hg72'.trans (hg76.trans hg80))⟩
end Go.Proofs.YtifhpmmdfjmppaaGreat
