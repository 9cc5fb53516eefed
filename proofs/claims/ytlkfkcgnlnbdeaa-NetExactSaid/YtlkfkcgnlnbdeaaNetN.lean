/- What the nets' methods hand back of no net, and the law's right. Conditions: none. -/
import Derived.Test.YtlkfkcgnlnbdeaaProg
import Derived.Test.YtlkfkcgnlnbdeaaNetE
import Derived.Test.YtlkfkcgnlnbdeaaKindsN
namespace Go.Proofs.Ytlkfkcgnlnbdeaa
open Go.Sx
set_option maxRecDepth 100000
set_option linter.unusedVariables false
set_option linter.unusedSimpArgs false
/- (*reprise/net.Net).find -/
def sx32n (k : Int) (R : Ending → World → Prop) (w : World) : Prop :=
  ∀ w1, Grew w w1 → R (.returned (.tuple #[.agg #[.int .i64 0, .int .i64 0, .int .i64 0, .int .i64 0, .int .i64 0, .int .i64 0, .slice none 0 0, .slice none 0 0, .slice none 0 0], .int .i64 2])) w1
theorem sx32n.ok {k : Int} {R : Ending → World → Prop} {w : World} (h : sx32n k R w) : CallsW Try.prog 32 [.pointer none, .int .i64 k] w R :=
  callsW_of mix Try.func32 (by kernel_rfl) (by kernel_rfl) (Eq.mpr (by kernel_rfl : denFn Try.prog { locals := [4, 6], known := [9] } Try.f32 [.pointer none, .int .i64 k] R w = sx32n k R w) h)

/- (*reprise/net.Net).Send -/
def sx16n (m_0 : Int) (m_1 : Int) (m_2 : Int) (m_3 : Int) (m_4 : Int) (m_5 : Int) (m_6 : Option Addr) (m_6_n m_6_c : Nat) (m_7 : Option Addr) (m_7_n m_7_c : Nat) (m_8 : Option Addr) (m_8_n m_8_c : Nat) (R : Ending → World → Prop) (w : World) : Prop :=
  ∀ w1, Grew w w1 → R (.returned (.tuple #[.int .i64 0, .int .i64 2])) w1
theorem sx16n.ok {m_0 : Int} {m_1 : Int} {m_2 : Int} {m_3 : Int} {m_4 : Int} {m_5 : Int} {m_6 : Option Addr} {m_6_n m_6_c : Nat} {m_7 : Option Addr} {m_7_n m_7_c : Nat} {m_8 : Option Addr} {m_8_n m_8_c : Nat} {R : Ending → World → Prop} {w : World} (h : sx16n m_0 m_1 m_2 m_3 m_4 m_5 m_6 m_6_n m_6_c m_7 m_7_n m_7_c m_8 m_8_n m_8_c R w) : CallsW Try.prog 16 [.pointer none, .agg #[.int .i64 m_0, .int .i64 m_1, .int .i64 m_2, .int .i64 m_3, .int .i64 m_4, .int .i64 m_5, .slice m_6 m_6_n m_6_c, .slice m_7 m_7_n m_7_c, .slice m_8 m_8_n m_8_c]] w R :=
  callsW_of mix Try.func16 (by kernel_rfl) (by kernel_rfl) (Eq.mpr (by kernel_rfl : denFn Try.prog { locals := [3], known := [8] } Try.f16 [.pointer none, .agg #[.int .i64 m_0, .int .i64 m_1, .int .i64 m_2, .int .i64 m_3, .int .i64 m_4, .int .i64 m_5, .slice m_6 m_6_n m_6_c, .slice m_7 m_7_n m_7_c, .slice m_8 m_8_n m_8_c]] R w = sx16n m_0 m_1 m_2 m_3 m_4 m_5 m_6 m_6_n m_6_c m_7 m_7_n m_7_c m_8 m_8_n m_8_c R w) h)

/- (*reprise/net.Net).Deliver -/
def sx19n (k : Int) (R : Ending → World → Prop) (w : World) : Prop :=
  ∀ w1, Grew w w1 → CallsW Try.prog 32 [.pointer none, .int .i64 k] w1 (RetR R fun u3 w2 => ∃ (n4 : Int) (n5 : Int) (n6 : Int) (n7 : Int) (n8 : Int) (n9 : Int) (a10 : Option Addr) (l10 c10 : Nat) (a11 : Option Addr) (l11
    c11 : Nat) (a12 : Option Addr) (l12 c12 : Nat) (n13 : Int), u3 = .tuple #[.agg #[.int .i64 n4, .int .i64 n5, .int .i64 n6, .int .i64 n7, .int .i64 n8, .int .i64 n9, .slice a10 l10 c10, .slice a11 l11 c11, .slice a12
    l12 c12], .int .i64 n13] ∧ ∀ w15, Grew w2 w15 → (((n13 == 0) = true → False) ∧ ((n13 == 0) = false → R (.returned (.tuple #[.agg #[.int .i64 n4, .int .i64 n5, .int .i64 n6, .int .i64 n7, .int .i64 n8, .int .i64 n9,
    .slice a10 l10 c10, .slice a11 l11 c11, .slice a12 l12 c12], .int .i64 n13])) w15)))
theorem sx19n.ok {k : Int} {R : Ending → World → Prop} {w : World} (h : sx19n k R w) : CallsW Try.prog 19 [.pointer none, .int .i64 k] w R :=
  callsW_of mix Try.func19 (by kernel_rfl) (by kernel_rfl) (Eq.mpr (by kernel_rfl : denFn Try.prog { locals := [4, 6] } Try.f19 [.pointer none, .int .i64 k] R w = sx19n k R w) h)

/- (*reprise/net.Net).Drop -/
def sx20n (k : Int) (R : Ending → World → Prop) (w : World) : Prop :=
  CallsW Try.prog 19 [.pointer none, .int .i64 k] w (RetR R fun u2 w1 => ∃ (n3 : Int) (n4 : Int) (n5 : Int) (n6 : Int) (n7 : Int) (n8 : Int) (a9 : Option Addr) (l9 c9 : Nat) (a10 : Option Addr) (l10 c10 : Nat) (a11 : Option
    Addr) (l11 c11 : Nat) (n12 : Int), u2 = .tuple #[.agg #[.int .i64 n3, .int .i64 n4, .int .i64 n5, .int .i64 n6, .int .i64 n7, .int .i64 n8, .slice a9 l9 c9, .slice a10 l10 c10, .slice a11 l11 c11], .int .i64 n12] ∧ ∀
    w14, Grew w1 w14 → R (.returned (.int .i64 n12)) w14)
theorem sx20n.ok {k : Int} {R : Ending → World → Prop} {w : World} (h : sx20n k R w) : CallsW Try.prog 20 [.pointer none, .int .i64 k] w R :=
  callsW_of mix Try.func20 (by kernel_rfl) (by kernel_rfl) (Eq.mpr (by kernel_rfl : denFn Try.prog { locals := [5] } Try.f20 [.pointer none, .int .i64 k] R w = sx20n k R w) h)

/- (*reprise/net.Net).Copy -/
def sx17n (k : Int) (R : Ending → World → Prop) (w : World) : Prop :=
  CallsW Try.prog 32 [.pointer none, .int .i64 k] w (RetR R fun u2 w1 => ∃ (n3 : Int) (n4 : Int) (n5 : Int) (n6 : Int) (n7 : Int) (n8 : Int) (a9 : Option Addr) (l9 c9 : Nat) (a10 : Option Addr) (l10 c10 : Nat) (a11 : Option
    Addr) (l11 c11 : Nat) (n12 : Int), u2 = .tuple #[.agg #[.int .i64 n3, .int .i64 n4, .int .i64 n5, .int .i64 n6, .int .i64 n7, .int .i64 n8, .slice a9 l9 c9, .slice a10 l10 c10, .slice a11 l11 c11], .int .i64 n12] ∧ ∀
    w14, Grew w1 w14 → (((n12 != 0) = true → R (.returned (.tuple #[.int .i64 0, .int .i64 n12])) w14) ∧ ((n12 != 0) = false → CallsW Try.prog 31 [.pointer none, .agg #[.int .i64 n3, .int .i64 n4, .int .i64 n5, .int .i64
    n6, .int .i64 n7, .int .i64 n8, .slice a9 l9 c9, .slice a10 l10 c10, .slice a11 l11 c11]] w14 (RetR R fun u16 w15 => ∃ (n17 : Int) (n18 : Int), u16 = .tuple #[.int .i64 n17, .int .i64 n18] ∧ R (.returned (.tuple
    #[.int .i64 n17, .int .i64 n18])) w15))))
theorem sx17n.ok {k : Int} {R : Ending → World → Prop} {w : World} (h : sx17n k R w) : CallsW Try.prog 17 [.pointer none, .int .i64 k] w R :=
  callsW_of mix Try.func17 (by kernel_rfl) (by kernel_rfl) (Eq.mpr (by kernel_rfl : denFn Try.prog { locals := [6] } Try.f17 [.pointer none, .int .i64 k] R w = sx17n k R w) h)

/- (*reprise/net.Net).Next -/
def sx14n  (R : Ending → World → Prop) (w : World) : Prop :=
  R (.returned (.int .i64 0)) w
theorem sx14n.ok  {R : Ending → World → Prop} {w : World} (h : sx14n  R w) : CallsW Try.prog 14 [.pointer none] w R :=
  callsW_of mix Try.func14 (by kernel_rfl) (by kernel_rfl) (Eq.mpr (by kernel_rfl : denFn Try.prog { known := [4] } Try.f14 [.pointer none] R w = sx14n  R w) h)

/- (*reprise/net.Net).Flights -/
def sx12n  (R : Ending → World → Prop) (w : World) : Prop :=
  R (.returned (.slice none 0 0)) w
theorem sx12n.ok  {R : Ending → World → Prop} {w : World} (h : sx12n  R w) : CallsW Try.prog 12 [.pointer none] w R :=
  callsW_of mix Try.func12 (by kernel_rfl) (by kernel_rfl) (Eq.mpr (by kernel_rfl : denFn Try.prog { known := [7] } Try.f12 [.pointer none] R w = sx12n  R w) h)

/- (*reprise/repriseref16.Net).Send -/
def sx23n (m_0 : Int) (m_1 : Int) (m_2 : Int) (m_3 : Int) (m_4 : Int) (m_5 : Int) (m_6 : Option Addr) (m_6_n m_6_c : Nat) (m_7 : Option Addr) (m_7_n m_7_c : Nat) (m_8 : Option Addr) (m_8_n m_8_c : Nat) (R : Ending → World → Prop) (w : World) : Prop :=
  ∀ w1, Grew w w1 → R (.returned (.tuple #[.int .i64 0, .int .i64 2])) w1
theorem sx23n.ok {m_0 : Int} {m_1 : Int} {m_2 : Int} {m_3 : Int} {m_4 : Int} {m_5 : Int} {m_6 : Option Addr} {m_6_n m_6_c : Nat} {m_7 : Option Addr} {m_7_n m_7_c : Nat} {m_8 : Option Addr} {m_8_n m_8_c : Nat} {R : Ending → World → Prop} {w : World} (h : sx23n m_0 m_1 m_2 m_3 m_4 m_5 m_6 m_6_n m_6_c m_7 m_7_n m_7_c m_8 m_8_n m_8_c R w) : CallsW Try.prog 23 [.pointer none, .agg #[.int .i64 m_0, .int .i64 m_1, .int .i64 m_2, .int .i64 m_3, .int .i64 m_4, .int .i64 m_5, .slice m_6 m_6_n m_6_c, .slice m_7 m_7_n m_7_c, .slice m_8 m_8_n m_8_c]] w R :=
  callsW_of mix Try.func23 (by kernel_rfl) (by kernel_rfl) (Eq.mpr (by kernel_rfl : denFn Try.prog { locals := [3], known := [7] } Try.f23 [.pointer none, .agg #[.int .i64 m_0, .int .i64 m_1, .int .i64 m_2, .int .i64 m_3, .int .i64 m_4, .int .i64 m_5, .slice m_6 m_6_n m_6_c, .slice m_7 m_7_n m_7_c, .slice m_8 m_8_n m_8_c]] R w = sx23n m_0 m_1 m_2 m_3 m_4 m_5 m_6 m_6_n m_6_c m_7 m_7_n m_7_c m_8 m_8_n m_8_c R w) h)

/- (*reprise/repriseref16.Net).Deliver -/
def sx24n (k : Int) (R : Ending → World → Prop) (w : World) : Prop :=
  ∀ w1, Grew w w1 → R (.returned (.tuple #[.agg #[.int .i64 0, .int .i64 0, .int .i64 0, .int .i64 0, .int .i64 0, .int .i64 0, .slice none 0 0, .slice none 0 0, .slice none 0 0], .int .i64 2])) w1
theorem sx24n.ok {k : Int} {R : Ending → World → Prop} {w : World} (h : sx24n k R w) : CallsW Try.prog 24 [.pointer none, .int .i64 k] w R :=
  callsW_of mix Try.func24 (by kernel_rfl) (by kernel_rfl) (Eq.mpr (by kernel_rfl : denFn Try.prog { locals := [4], known := [8] } Try.f24 [.pointer none, .int .i64 k] R w = sx24n k R w) h)

/- (*reprise/repriseref16.Net).Drop -/
def sx25n (k : Int) (R : Ending → World → Prop) (w : World) : Prop :=
  CallsW Try.prog 24 [.pointer none, .int .i64 k] w (RetR R fun u2 w1 => ∃ (n3 : Int) (n4 : Int) (n5 : Int) (n6 : Int) (n7 : Int) (n8 : Int) (a9 : Option Addr) (l9 c9 : Nat) (a10 : Option Addr) (l10 c10 : Nat) (a11 : Option
    Addr) (l11 c11 : Nat) (n12 : Int), u2 = .tuple #[.agg #[.int .i64 n3, .int .i64 n4, .int .i64 n5, .int .i64 n6, .int .i64 n7, .int .i64 n8, .slice a9 l9 c9, .slice a10 l10 c10, .slice a11 l11 c11], .int .i64 n12] ∧ ∀
    w14, Grew w1 w14 → R (.returned (.int .i64 n12)) w14)
theorem sx25n.ok {k : Int} {R : Ending → World → Prop} {w : World} (h : sx25n k R w) : CallsW Try.prog 25 [.pointer none, .int .i64 k] w R :=
  callsW_of mix Try.func25 (by kernel_rfl) (by kernel_rfl) (Eq.mpr (by kernel_rfl : denFn Try.prog { locals := [5] } Try.f25 [.pointer none, .int .i64 k] R w = sx25n k R w) h)

/- (*reprise/repriseref16.Net).Copy -/
def sx26n (k : Int) (R : Ending → World → Prop) (w : World) : Prop :=
  R (.returned (.tuple #[.int .i64 0, .int .i64 2])) w
theorem sx26n.ok {k : Int} {R : Ending → World → Prop} {w : World} (h : sx26n k R w) : CallsW Try.prog 26 [.pointer none, .int .i64 k] w R :=
  callsW_of mix Try.func26 (by kernel_rfl) (by kernel_rfl) (Eq.mpr (by kernel_rfl : denFn Try.prog { known := [8] } Try.f26 [.pointer none, .int .i64 k] R w = sx26n k R w) h)

/- (*reprise/repriseref16.Net).Next -/
def sx15n  (R : Ending → World → Prop) (w : World) : Prop :=
  R (.returned (.int .i64 0)) w
theorem sx15n.ok  {R : Ending → World → Prop} {w : World} (h : sx15n  R w) : CallsW Try.prog 15 [.pointer none] w R :=
  callsW_of mix Try.func15 (by kernel_rfl) (by kernel_rfl) (Eq.mpr (by kernel_rfl : denFn Try.prog { known := [4] } Try.f15 [.pointer none] R w = sx15n  R w) h)

/- (*reprise/repriseref16.Net).Flights -/
def sx13n  (R : Ending → World → Prop) (w : World) : Prop :=
  ∀ (b1 : Nat) (w2 : World), Alloc w w2 b1 (.cells #[] 55) → ∃ (I3 : Option Addr → Nat → Nat → Int → World → Prop) (m3 : Option Addr → Nat → Nat → Int → World → Nat), I3 (some ⟨b1, 0, none⟩) 0 0 0 w2 ∧ ∀ (a4 : Option Addr)
    (l4 c4 : Nat) (n5 : Int) (w6 : World), I3 a4 l4 c4 n5 w6 → R (.returned (.slice a4 l4 c4)) w6
theorem sx13n.ok  {R : Ending → World → Prop} {w : World} (h : sx13n  R w) : CallsW Try.prog 13 [.pointer none] w R :=
  callsW_of mix Try.func13 (by kernel_rfl) (by kernel_rfl) (Eq.mpr (by kernel_rfl : denFn Try.prog { known := [7], loops := [(3, { slots := [(3, .slice), (4, .int .i64)], cells := [] })] } Try.f13 [.pointer none] R w = sx13n  R w) h)

/- reprise/repriselaw16.right -/
def sx10n (p2_0 : Int) (p2_1 : Int) (p2_2 : Int) (p2_3 : Int) (p2_4 : Int) (p2_5 : Int) (p2_6 : Int) (p2_7 : Int) (p2_8 : Int) (p2_9 : Option Addr) (p2_9_n p2_9_c : Nat) (p2_10 : Option Addr) (p2_10_n p2_10_c : Nat) (p2_11 : Option Addr) (p2_11_n p2_11_c : Nat) (R : Ending → World → Prop) (w : World) : Prop :=
  ∀ w1, Grew w w1 → (((p2_0 == 1) = true → CallsW Try.prog 16 [.pointer none, .agg #[.int .i64 p2_3, .int .i64 p2_4, .int .i64 p2_5, .int .i64 p2_6, .int .i64 p2_7, .int .i64 p2_8, .slice p2_9 p2_9_n p2_9_c, .slice p2_10
    p2_10_n p2_10_c, .slice p2_11 p2_11_n p2_11_c]] w1 (RetR R fun u3 w2 => ∃ (n4 : Int) (n5 : Int), u3 = .tuple #[.int .i64 n4, .int .i64 n5] ∧ CallsW Try.prog 23 [.pointer none, .agg #[.int .i64 p2_3, .int .i64 p2_4,
    .int .i64 p2_5, .int .i64 p2_6, .int .i64 p2_7, .int .i64 p2_8, .slice p2_9 p2_9_n p2_9_c, .slice p2_10 p2_10_n p2_10_c, .slice p2_11 p2_11_n p2_11_c]] w2 (RetR R fun u8 w7 => ∃ (n9 : Int) (n10 : Int), u8 = .tuple
    #[.int .i64 n9, .int .i64 n10] ∧ (((n4 == n9) = true → R (.returned (.bool (n5 == n10))) w7) ∧ ((n4 == n9) = false → R (.returned (.bool false)) w7))))) ∧ ((p2_0 == 1) = false → (((p2_0 == 2) = true → CallsW Try.prog
    19 [.pointer none, .int .i64 p2_2] w1 (RetR R fun u13 w12 => ∃ (n14 : Int) (n15 : Int) (n16 : Int) (n17 : Int) (n18 : Int) (n19 : Int) (a20 : Option Addr) (l20 c20 : Nat) (a21 : Option Addr) (l21 c21 : Nat) (a22 :
    Option Addr) (l22 c22 : Nat) (n23 : Int), u13 = .tuple #[.agg #[.int .i64 n14, .int .i64 n15, .int .i64 n16, .int .i64 n17, .int .i64 n18, .int .i64 n19, .slice a20 l20 c20, .slice a21 l21 c21, .slice a22 l22 c22],
    .int .i64 n23] ∧ ∀ w25, Grew w12 w25 → CallsW Try.prog 24 [.pointer none, .int .i64 p2_2] w25 (RetR R fun u27 w26 => ∃ (n28 : Int) (n29 : Int) (n30 : Int) (n31 : Int) (n32 : Int) (n33 : Int) (a34 : Option Addr) (l34
    c34 : Nat) (a35 : Option Addr) (l35 c35 : Nat) (a36 : Option Addr) (l36 c36 : Nat) (n37 : Int), u27 = .tuple #[.agg #[.int .i64 n28, .int .i64 n29, .int .i64 n30, .int .i64 n31, .int .i64 n32, .int .i64 n33, .slice
    a34 l34 c34, .slice a35 l35 c35, .slice a36 l36 c36], .int .i64 n37] ∧ ∀ w39, Grew w26 w39 → CallsW Try.prog 21 [.agg #[.int .i64 n14, .int .i64 n15, .int .i64 n16, .int .i64 n17, .int .i64 n18, .int .i64 n19, .slice
    a20 l20 c20, .slice a21 l21 c21, .slice a22 l22 c22], .agg #[.int .i64 n28, .int .i64 n29, .int .i64 n30, .int .i64 n31, .int .i64 n32, .int .i64 n33, .slice a34 l34 c34, .slice a35 l35 c35, .slice a36 l36 c36]] w39
    (RetR R fun u41 w40 => ∃ (b42 : Bool), u41 = .bool b42 ∧ ((b42 = true → R (.returned (.bool (n23 == n37))) w40) ∧ (b42 = false → R (.returned (.bool false)) w40)))))) ∧ ((p2_0 == 2) = false → (((p2_0 == 3) = true → ∀
    w44, Grew w1 w44 → CallsW Try.prog 20 [.pointer none, .int .i64 p2_2] w44 (Ret (fun u46 w45 => ∃ (n47 : Int), u46 = .int .i64 n47 ∧ SameB w44 w45 [] ∧ CallsW Try.prog 25 [.pointer none, .int .i64 p2_2] w45 (Ret (fun
    u50 w49 => ∃ (n51 : Int), u50 = .int .i64 n51 ∧ R (.returned (.bool (n47 == n51))) w49) (fun c52 w49 => False))) (fun c48 w45 => False))) ∧ ((p2_0 == 3) = false → (((p2_0 == 4) = true → CallsW Try.prog 17 [.pointer
    none, .int .i64 p2_2] w1 (RetR R fun u54 w53 => ∃ (n55 : Int) (n56 : Int), u54 = .tuple #[.int .i64 n55, .int .i64 n56] ∧ CallsW Try.prog 26 [.pointer none, .int .i64 p2_2] w53 (RetR R fun u59 w58 => ∃ (n60 : Int)
    (n61 : Int), u59 = .tuple #[.int .i64 n60, .int .i64 n61] ∧ (((n55 == n60) = true → R (.returned (.bool (n56 == n61))) w58) ∧ ((n55 == n60) = false → R (.returned (.bool false)) w58))))) ∧ ((p2_0 == 4) = false →
    (((p2_0 == 5) = true → CallsW Try.prog 12 [.pointer none] w1 (RetR R fun u64 w63 => ∃ (a65 : Option Addr) (l65 c65 : Nat), u64 = .slice a65 l65 c65 ∧ CallsW Try.prog 13 [.pointer none] w63 (RetR R fun u68 w67 => ∃
    (a69 : Option Addr) (l69 c69 : Nat), u68 = .slice a69 l69 c69 ∧ CallsW Try.prog 11 [.slice a65 l65 c65, .slice a69 l69 c69] w67 (RetR R fun u72 w71 => ∃ (b73 : Bool), u72 = .bool b73 ∧ R (.returned (.bool b73))
    w71)))) ∧ ((p2_0 == 5) = false → CallsW Try.prog 14 [.pointer none] w1 (RetR R fun u76 w75 => ∃ (n77 : Int), u76 = .int .i64 n77 ∧ CallsW Try.prog 15 [.pointer none] w75 (RetR R fun u80 w79 => ∃ (n81 : Int), u80 =
    .int .i64 n81 ∧ R (.returned (.bool (n77 == n81))) w79))))))))))))
theorem sx10n.ok {p2_0 : Int} {p2_1 : Int} {p2_2 : Int} {p2_3 : Int} {p2_4 : Int} {p2_5 : Int} {p2_6 : Int} {p2_7 : Int} {p2_8 : Int} {p2_9 : Option Addr} {p2_9_n p2_9_c : Nat} {p2_10 : Option Addr} {p2_10_n p2_10_c : Nat} {p2_11 : Option Addr} {p2_11_n p2_11_c : Nat} {R : Ending → World → Prop} {w : World} (h : sx10n p2_0 p2_1 p2_2 p2_3 p2_4 p2_5 p2_6 p2_7 p2_8 p2_9 p2_9_n p2_9_c p2_10 p2_10_n p2_10_c p2_11 p2_11_n p2_11_c R w) : CallsW Try.prog 10 [.pointer none, .pointer none, .agg #[.int .i64 p2_0, .int .i64 p2_1, .int .i64 p2_2, .int .i64 p2_3, .int .i64 p2_4, .int .i64 p2_5, .int .i64 p2_6, .int .i64 p2_7, .int .i64 p2_8, .slice p2_9 p2_9_n p2_9_c, .slice p2_10 p2_10_n p2_10_c, .slice p2_11 p2_11_n p2_11_c]] w R :=
  callsW_of mix Try.func10 (by kernel_rfl) (by kernel_rfl) (Eq.mpr (by kernel_rfl : denFn Try.prog { locals := [5, 11, 13], draws := [(11, { order := (.cons 0 (.cons 1 (.cons 2 (.cons 4 (.cons 5 (.cons 6 (.cons 3 (.cons 7 (.cons 8 (.cons 9 .nil)))))))))), bars := [7] })] } Try.f10 [.pointer none, .pointer none, .agg #[.int .i64 p2_0, .int .i64 p2_1, .int .i64 p2_2, .int .i64 p2_3, .int .i64 p2_4, .int .i64 p2_5, .int .i64 p2_6, .int .i64 p2_7, .int .i64 p2_8, .slice p2_9 p2_9_n p2_9_c, .slice p2_10 p2_10_n p2_10_c, .slice p2_11 p2_11_n p2_11_c]] R w = sx10n p2_0 p2_1 p2_2 p2_3 p2_4 p2_5 p2_6 p2_7 p2_8 p2_9 p2_9_n p2_9_c p2_10 p2_10_n p2_10_c p2_11 p2_11_n p2_11_c R w) h)

/- reprise/repriselaw16.right -/
def sx10 (d : Nat) (i : Nat) (p2_0 : Int) (p2_1 : Int) (p2_2 : Int) (p2_3 : Int) (p2_4 : Int) (p2_5 : Int) (p2_6 : Int) (p2_7 : Int) (p2_8 : Int) (p2_9 : Option Addr) (p2_9_n p2_9_c : Nat) (p2_10 : Option Addr) (p2_10_n p2_10_c : Nat) (p2_11 : Option Addr) (p2_11_n p2_11_c : Nat) (R : Ending → World → Prop) (w : World) : Prop :=
  ∀ w1, Grew w w1 → (((p2_0 == 1) = true → CallsW Try.prog 16 [.pointer (some ⟨d, 0, none⟩), .agg #[.int .i64 p2_3, .int .i64 p2_4, .int .i64 p2_5, .int .i64 p2_6, .int .i64 p2_7, .int .i64 p2_8, .slice p2_9 p2_9_n p2_9_c,
    .slice p2_10 p2_10_n p2_10_c, .slice p2_11 p2_11_n p2_11_c]] w1 (RetR R fun u3 w2 => ∃ (n4 : Int) (n5 : Int), u3 = .tuple #[.int .i64 n4, .int .i64 n5] ∧ CallsW Try.prog 23 [.pointer (some ⟨i, 0, none⟩), .agg #[.int
    .i64 p2_3, .int .i64 p2_4, .int .i64 p2_5, .int .i64 p2_6, .int .i64 p2_7, .int .i64 p2_8, .slice p2_9 p2_9_n p2_9_c, .slice p2_10 p2_10_n p2_10_c, .slice p2_11 p2_11_n p2_11_c]] w2 (RetR R fun u8 w7 => ∃ (n9 : Int)
    (n10 : Int), u8 = .tuple #[.int .i64 n9, .int .i64 n10] ∧ (((n4 == n9) = true → R (.returned (.bool (n5 == n10))) w7) ∧ ((n4 == n9) = false → R (.returned (.bool false)) w7))))) ∧ ((p2_0 == 1) = false → (((p2_0 == 2)
    = true → CallsW Try.prog 19 [.pointer (some ⟨d, 0, none⟩), .int .i64 p2_2] w1 (RetR R fun u13 w12 => ∃ (n14 : Int) (n15 : Int) (n16 : Int) (n17 : Int) (n18 : Int) (n19 : Int) (a20 : Option Addr) (l20 c20 : Nat) (a21 :
    Option Addr) (l21 c21 : Nat) (a22 : Option Addr) (l22 c22 : Nat) (n23 : Int), u13 = .tuple #[.agg #[.int .i64 n14, .int .i64 n15, .int .i64 n16, .int .i64 n17, .int .i64 n18, .int .i64 n19, .slice a20 l20 c20, .slice
    a21 l21 c21, .slice a22 l22 c22], .int .i64 n23] ∧ ∀ w25, Grew w12 w25 → CallsW Try.prog 24 [.pointer (some ⟨i, 0, none⟩), .int .i64 p2_2] w25 (RetR R fun u27 w26 => ∃ (n28 : Int) (n29 : Int) (n30 : Int) (n31 : Int)
    (n32 : Int) (n33 : Int) (a34 : Option Addr) (l34 c34 : Nat) (a35 : Option Addr) (l35 c35 : Nat) (a36 : Option Addr) (l36 c36 : Nat) (n37 : Int), u27 = .tuple #[.agg #[.int .i64 n28, .int .i64 n29, .int .i64 n30, .int
    .i64 n31, .int .i64 n32, .int .i64 n33, .slice a34 l34 c34, .slice a35 l35 c35, .slice a36 l36 c36], .int .i64 n37] ∧ ∀ w39, Grew w26 w39 → CallsW Try.prog 21 [.agg #[.int .i64 n14, .int .i64 n15, .int .i64 n16, .int
    .i64 n17, .int .i64 n18, .int .i64 n19, .slice a20 l20 c20, .slice a21 l21 c21, .slice a22 l22 c22], .agg #[.int .i64 n28, .int .i64 n29, .int .i64 n30, .int .i64 n31, .int .i64 n32, .int .i64 n33, .slice a34 l34 c34,
    .slice a35 l35 c35, .slice a36 l36 c36]] w39 (RetR R fun u41 w40 => ∃ (b42 : Bool), u41 = .bool b42 ∧ ((b42 = true → R (.returned (.bool (n23 == n37))) w40) ∧ (b42 = false → R (.returned (.bool false)) w40)))))) ∧
    ((p2_0 == 2) = false → (((p2_0 == 3) = true → ∀ w44, Grew w1 w44 → CallsW Try.prog 20 [.pointer (some ⟨d, 0, none⟩), .int .i64 p2_2] w44 (Ret (fun u46 w45 => ∃ (n47 : Int), u46 = .int .i64 n47 ∧ SameB w44 w45 [] ∧
    CallsW Try.prog 25 [.pointer (some ⟨i, 0, none⟩), .int .i64 p2_2] w45 (Ret (fun u50 w49 => ∃ (n51 : Int), u50 = .int .i64 n51 ∧ R (.returned (.bool (n47 == n51))) w49) (fun c52 w49 => False))) (fun c48 w45 => False)))
    ∧ ((p2_0 == 3) = false → (((p2_0 == 4) = true → CallsW Try.prog 17 [.pointer (some ⟨d, 0, none⟩), .int .i64 p2_2] w1 (RetR R fun u54 w53 => ∃ (n55 : Int) (n56 : Int), u54 = .tuple #[.int .i64 n55, .int .i64 n56] ∧
    CallsW Try.prog 26 [.pointer (some ⟨i, 0, none⟩), .int .i64 p2_2] w53 (RetR R fun u59 w58 => ∃ (n60 : Int) (n61 : Int), u59 = .tuple #[.int .i64 n60, .int .i64 n61] ∧ (((n55 == n60) = true → R (.returned (.bool (n56
    == n61))) w58) ∧ ((n55 == n60) = false → R (.returned (.bool false)) w58))))) ∧ ((p2_0 == 4) = false → (((p2_0 == 5) = true → CallsW Try.prog 12 [.pointer (some ⟨d, 0, none⟩)] w1 (RetR R fun u64 w63 => ∃ (a65 : Option
    Addr) (l65 c65 : Nat), u64 = .slice a65 l65 c65 ∧ CallsW Try.prog 13 [.pointer (some ⟨i, 0, none⟩)] w63 (RetR R fun u68 w67 => ∃ (a69 : Option Addr) (l69 c69 : Nat), u68 = .slice a69 l69 c69 ∧ CallsW Try.prog 11
    [.slice a65 l65 c65, .slice a69 l69 c69] w67 (RetR R fun u72 w71 => ∃ (b73 : Bool), u72 = .bool b73 ∧ R (.returned (.bool b73)) w71)))) ∧ ((p2_0 == 5) = false → CallsW Try.prog 14 [.pointer (some ⟨d, 0, none⟩)] w1
    (RetR R fun u76 w75 => ∃ (n77 : Int), u76 = .int .i64 n77 ∧ CallsW Try.prog 15 [.pointer (some ⟨i, 0, none⟩)] w75 (RetR R fun u80 w79 => ∃ (n81 : Int), u80 = .int .i64 n81 ∧ R (.returned (.bool (n77 == n81)))
    w79))))))))))))
theorem sx10.ok {d : Nat} {i : Nat} {p2_0 : Int} {p2_1 : Int} {p2_2 : Int} {p2_3 : Int} {p2_4 : Int} {p2_5 : Int} {p2_6 : Int} {p2_7 : Int} {p2_8 : Int} {p2_9 : Option Addr} {p2_9_n p2_9_c : Nat} {p2_10 : Option Addr} {p2_10_n p2_10_c : Nat} {p2_11 : Option Addr} {p2_11_n p2_11_c : Nat} {R : Ending → World → Prop} {w : World} (h : sx10 d i p2_0 p2_1 p2_2 p2_3 p2_4 p2_5 p2_6 p2_7 p2_8 p2_9 p2_9_n p2_9_c p2_10 p2_10_n p2_10_c p2_11 p2_11_n p2_11_c R w) : CallsW Try.prog 10 [.pointer (some ⟨d, 0, none⟩), .pointer (some ⟨i, 0, none⟩), .agg #[.int .i64 p2_0, .int .i64 p2_1, .int .i64 p2_2, .int .i64 p2_3, .int .i64 p2_4, .int .i64 p2_5, .int .i64 p2_6, .int .i64 p2_7, .int .i64 p2_8, .slice p2_9 p2_9_n p2_9_c, .slice p2_10 p2_10_n p2_10_c, .slice p2_11 p2_11_n p2_11_c]] w R :=
  callsW_of mix Try.func10 (by kernel_rfl) (by kernel_rfl) (Eq.mpr (by kernel_rfl : denFn Try.prog { locals := [5, 11, 13], draws := [(11, { order := (.cons 0 (.cons 1 (.cons 2 (.cons 4 (.cons 5 (.cons 6 (.cons 3 (.cons 7 (.cons 8 (.cons 9 .nil)))))))))), bars := [7] })] } Try.f10 [.pointer (some ⟨d, 0, none⟩), .pointer (some ⟨i, 0, none⟩), .agg #[.int .i64 p2_0, .int .i64 p2_1, .int .i64 p2_2, .int .i64 p2_3, .int .i64 p2_4, .int .i64 p2_5, .int .i64 p2_6, .int .i64 p2_7, .int .i64 p2_8, .slice p2_9 p2_9_n p2_9_c, .slice p2_10 p2_10_n p2_10_c, .slice p2_11 p2_11_n p2_11_c]] R w = sx10 d i p2_0 p2_1 p2_2 p2_3 p2_4 p2_5 p2_6 p2_7 p2_8 p2_9 p2_9_n p2_9_c p2_10 p2_10_n p2_10_c p2_11 p2_11_n p2_11_c R w) h)


theorem nfind_ok {k : Int} {w : World} : CallsW Try.prog 32 [.pointer none, .int .i64 k] w (Rets fun v w' => v = .tuple #[msg0.val, .int .i64 2] ∧ Grew w w') := by
  refine sx32n.ok ?_
  unfold sx32n
  intros
  refine ⟨_, rfl, rfl, ?_⟩
  first | assumption | exact Grew.refl _
theorem nSend_ok {x : Msg} {w : World} : CallsW Try.prog 16 [.pointer none, x.val] w (Rets fun v w' => v = .tuple #[.int .i64 0, .int .i64 2] ∧ Grew w w') := by
  refine sx16n.ok ?_
  unfold sx16n
  intros
  refine ⟨_, rfl, rfl, ?_⟩
  first | assumption | exact Grew.refl _
theorem nDeliver_ok {k : Int} {w : World} : CallsW Try.prog 19 [.pointer none, .int .i64 k] w (Rets fun v w' => v = .tuple #[msg0.val, .int .i64 2] ∧ Grew w w') := by
  refine sx19n.ok ?_
  unfold sx19n
  intro w1 hg1
  refine nfind_ok.use fun v w2 ⟨hv, hg2⟩ => ?_
  subst hv
  exact ⟨_, _, _, _, _, _, _, _, _, _, _, _, _, _, _, _, rfl, fun w15 hg15 => ⟨fun h => (by simp at h), fun _ => ⟨_, rfl, rfl, hg1.trans (hg2.trans hg15)⟩⟩⟩
theorem nDrop_ok {k : Int} {w : World} : CallsW Try.prog 20 [.pointer none, .int .i64 k] w (Rets fun v w' => v = .int .i64 2 ∧ Grew w w') := by
  refine sx20n.ok ?_
  unfold sx20n
  refine nDeliver_ok.use fun v w1 ⟨hv, hg1⟩ => ?_
  subst hv
  exact ⟨_, _, _, _, _, _, _, _, _, _, _, _, _, _, _, _, rfl, fun w14 hg14 => ⟨_, rfl, rfl, hg1.trans hg14⟩⟩
theorem nCopy_ok {k : Int} {w : World} : CallsW Try.prog 17 [.pointer none, .int .i64 k] w (Rets fun v w' => v = .tuple #[.int .i64 0, .int .i64 2] ∧ Grew w w') := by
  refine sx17n.ok ?_
  unfold sx17n
  refine nfind_ok.use fun v w1 ⟨hv, hg1⟩ => ?_
  subst hv
  exact ⟨_, _, _, _, _, _, _, _, _, _, _, _, _, _, _, _, rfl, fun w14 hg14 => ⟨fun _ => ⟨_, rfl, rfl, hg1.trans hg14⟩, fun h => (by simp at h)⟩⟩
theorem nNext_ok {w : World} : CallsW Try.prog 14 [.pointer none] w (Rets fun v w' => v = .int .i64 0 ∧ w' = w) := by
  refine sx14n.ok ?_
  unfold sx14n
  exact ⟨_, rfl, rfl, rfl⟩
theorem nFlights_ok {w : World} : CallsW Try.prog 12 [.pointer none] w (Rets (Flown w [])) := by
  refine sx12n.ok ?_
  unfold sx12n
  exact ⟨_, rfl, none, 0, 0, [], rfl, Own.nil _ _ _ _, rfl, ⟨by simp, by simp, List.Pairwise.nil⟩, Grew.refl _⟩
theorem nrSend_ok {x : Msg} {w : World} : CallsW Try.prog 23 [.pointer none, x.val] w (Rets fun v w' => v = .tuple #[.int .i64 0, .int .i64 2] ∧ Grew w w') := by
  refine sx23n.ok ?_
  unfold sx23n
  intros
  refine ⟨_, rfl, rfl, ?_⟩
  first | assumption | exact Grew.refl _
theorem nrDeliver_ok {k : Int} {w : World} : CallsW Try.prog 24 [.pointer none, .int .i64 k] w (Rets fun v w' => v = .tuple #[msg0.val, .int .i64 2] ∧ Grew w w') := by
  refine sx24n.ok ?_
  unfold sx24n
  intros
  refine ⟨_, rfl, rfl, ?_⟩
  first | assumption | exact Grew.refl _
theorem nrDrop_ok {k : Int} {w : World} : CallsW Try.prog 25 [.pointer none, .int .i64 k] w (Rets fun v w' => v = .int .i64 2 ∧ Grew w w') := by
  refine sx25n.ok ?_
  unfold sx25n
  refine nrDeliver_ok.use fun v w1 ⟨hv, hg1⟩ => ?_
  subst hv
  exact ⟨_, _, _, _, _, _, _, _, _, _, _, _, _, _, _, _, rfl, fun w14 hg14 => ⟨_, rfl, rfl, hg1.trans hg14⟩⟩
theorem nrCopy_ok {k : Int} {w : World} : CallsW Try.prog 26 [.pointer none, .int .i64 k] w (Rets fun v w' => v = .tuple #[.int .i64 0, .int .i64 2] ∧ Grew w w') := by
  refine sx26n.ok ?_
  unfold sx26n
  intros
  refine ⟨_, rfl, rfl, ?_⟩
  first | assumption | exact Grew.refl _
theorem nrNext_ok {w : World} : CallsW Try.prog 15 [.pointer none] w (Rets fun v w' => v = .int .i64 0 ∧ w' = w) := by
  refine sx15n.ok ?_
  unfold sx15n
  exact ⟨_, rfl, rfl, rfl⟩
theorem nrFlights_ok {w : World} : CallsW Try.prog 13 [.pointer none] w (Rets (Flown w [])) := by
  refine sx13n.ok ?_
  unfold sx13n
  intro b1 w2 hal
  have ho2 := Own.alloc (E := Enc.flight) (l := []) hal (Nat.le_refl _) rfl (by decide)
  refine ⟨fun a l c _ w' => Own w' w.heap.size 55 Enc.flight a l c [] ∧ Grew w w', fun _ _ _ _ _ => 0, ⟨ho2, hal.grew⟩, ?_⟩
  rintro a4 l4 c4 n5 w6 ⟨ho, hg⟩
  exact ⟨_, rfl, a4, l4, c4, [], rfl, ho, rfl, ⟨by simp, by simp, List.Pairwise.nil⟩, hg⟩

theorem rightNil_ok {x : OpN} {w : World} (hx : OpOk w x) : CallsW Try.prog 10 [.pointer none, .pointer none, .agg (Enc.op.f x).toArray] w (Rets fun v w' => v = .bool true ∧ Grew w w') := by
  refine sx10n.ok ?_
  unfold sx10n
  intro w1 hg1
  refine ⟨fun _ => ?_, fun _ => ⟨fun _ => ?_, fun _ => ⟨fun _ => ?_, fun _ => ⟨fun _ => ?_, fun _ => ⟨fun _ => ?_, fun _ => ?_⟩⟩⟩⟩⟩
  · refine (nSend_ok (x := x.m)).use fun v w2 ⟨hv, hg2⟩ => ?_
    subst hv
    refine ⟨_, _, rfl, (nrSend_ok (x := x.m)).use fun v w7 ⟨hv, hg7⟩ => ?_⟩
    subst hv
    exact ⟨_, _, rfl, fun _ => ⟨_, rfl, rfl, hg1.trans (hg2.trans hg7)⟩, fun h => (by simp at h)⟩
  · refine nDeliver_ok.use fun v w2 ⟨hv, hg2⟩ => ?_
    subst hv
    refine ⟨_, _, _, _, _, _, _, _, _, _, _, _, _, _, _, _, rfl, fun w25 hg25 => nrDeliver_ok.use fun v w26 ⟨hv, hg26⟩ => ?_⟩
    subst hv
    refine ⟨_, _, _, _, _, _, _, _, _, _, _, _, _, _, _, _, rfl, fun w39 hg39 => ?_⟩
    have hg := hg1.trans (hg2.trans (hg25.trans (hg26.trans hg39)))
    refine (same_ok (x := msg0) (y := msg0) msg0_at msg0_at rfl ⟨by simp [msg0, msgV0], by simp [msg0, msgV0], by simp [msg0, msgV0], by simp [msg0, msgV0]⟩ (by simp [msg0, msgV0]) (by simp [msg0, msgV0]) (by simp [msg0, msgV0])).use fun v w40 ⟨hv, hg40⟩ => ?_
    subst hv
    exact ⟨_, rfl, fun _ => ⟨_, rfl, rfl, hg.trans hg40⟩, fun h => (by cases h)⟩
  · intro w44 hg44
    refine nDrop_ok.use' fun v w45 ⟨hv, hg45⟩ => ?_
    subst hv
    refine ⟨_, rfl, by simp [SameB], nrDrop_ok.use' fun v w49 ⟨hv, hg49⟩ => ?_⟩
    subst hv
    exact ⟨_, rfl, _, rfl, rfl, hg1.trans (hg44.trans (hg45.trans hg49))⟩
  · refine nCopy_ok.use fun v w2 ⟨hv, hg2⟩ => ?_
    subst hv
    refine ⟨_, _, rfl, nrCopy_ok.use fun v w7 ⟨hv, hg7⟩ => ?_⟩
    subst hv
    exact ⟨_, _, rfl, fun _ => ⟨_, rfl, rfl, hg1.trans (hg2.trans hg7)⟩, fun h => (by simp at h)⟩
  · refine nFlights_ok.use fun v w63 ⟨a65, l65, c65, La, hv, hLo, hLc, hLm, hg63⟩ => ?_
    subst hv
    refine ⟨_, _, _, rfl, nrFlights_ok.use fun v w67 ⟨a69, l69, c69, Lb, hv, hRo, hRc, hRm, hg67⟩ => ?_⟩
    subst hv
    have hl : La.length = 0 := by have := congrArg List.length hLc; rwa [conts_len] at this
    refine ⟨_, _, _, rfl, (flights_ok ((FlAt.own hLo hLm).grew hg67) (FlAt.own hRo hRm) (by rw [hLc, hRc]) hLm.ok (by omega)).use fun v w71 ⟨hv, hg71⟩ => ?_⟩
    subst hv
    exact ⟨_, rfl, _, rfl, rfl, hg1.trans (hg63.trans (hg67.trans hg71))⟩
  · refine nNext_ok.use fun v w75 ⟨hv, hw⟩ => ?_
    subst hv; subst hw
    refine ⟨_, rfl, nrNext_ok.use fun v w79 ⟨hv, hw⟩ => ?_⟩
    subst hv; subst hw
    exact ⟨_, rfl, _, rfl, by simp, hg1⟩
end Go.Proofs.Ytlkfkcgnlnbdeaa
