/- What the reference net's methods hand back. Conditions: none. -/
import Derived.Test.YtlkfkcgnlnbdeaaProg
import Derived.Test.YtlkfkcgnlnbdeaaNetG
namespace Go.Proofs.Ytlkfkcgnlnbdeaa
open Go.Sx
set_option maxRecDepth 100000
set_option linter.unusedVariables false
set_option linter.unusedSimpArgs false
/- reprise/repriseref16.New -/
def sx9 (most : Int) (R : Ending → World → Prop) (w : World) : Prop :=
  (((decide (most < 0)) = true → R (.returned (.tuple #[.pointer none, .int .i64 1])) w) ∧ ((decide (most < 0)) = false → (((decide (most > 4096)) = true → R (.returned (.tuple #[.pointer none, .int .i64 1])) w) ∧ ((decide
    (most > 4096)) = false → ∀ (b1 : Nat) (w2 : World), Alloc w w2 b1 (.cells [.int .i64 most, .slice none 0 0, .int .i64 0].toArray 67) → R (.returned (.tuple #[.pointer (some ⟨b1, 0, none⟩), .int .i64 0])) w2))))
theorem sx9.ok {most : Int} {R : Ending → World → Prop} {w : World} (h : sx9 most R w) : CallsW Try.prog 9 [.int .i64 most] w R :=
  callsW_of mix Try.func9 (by kernel_rfl) (by kernel_rfl) (Eq.mpr (by kernel_rfl : denFn Try.prog {} Try.f9 [.int .i64 most] R w = sx9 most R w) h)

/- (*reprise/repriseref16.Net).place -/
def sx40 (n : Nat) (k : Int) (R : Ending → World → Prop) (w : World) : Prop :=
  ∃ (I1 : Int → World → Prop) (m1 : Int → World → Nat), I1 0 w ∧ ∀ (n2 : Int) (w3 : World), I1 n2 w3 → ∃ (a4 : Option Addr) (l4 c4 : Nat), w3.cell? ⟨n, 1, none⟩ = some (.slice a4 l4 c4) ∧ (((decide (n2 < ((l4 : Nat) :
    Int))) = true → ∃ (a5 : Option Addr) (l5 c5 : Nat), w3.cell? ⟨n, 1, none⟩ = some (.slice a5 l5 c5) ∧ withSome a5 (fun d6 => (0 ≤ n2 ∧ n2 < (l5 : Nat)) ∧ ∃ (n7 : Int), w3.cell? (Addr.add d6 (n2.toNat * 10)) = some
    (.int .i64 n7) ∧ (((n7 == k) = true → R (.returned (.int .i64 n2)) w3) ∧ ((n7 == k) = false → (I1 (IntKind.i64.wrap (n2 + 1)) w3 ∧ m1 (IntKind.i64.wrap (n2 + 1)) w3 < m1 n2 w3))))) ∧ ((decide (n2 < ((l4 : Nat) :
    Int))) = false → R (.returned (.int .i64 (-1))) w3))
theorem sx40.ok {n : Nat} {k : Int} {R : Ending → World → Prop} {w : World} (h : sx40 n k R w) : CallsW Try.prog 40 [.pointer (some ⟨n, 0, none⟩), .int .i64 k] w R :=
  callsW_of mix Try.func40 (by kernel_rfl) (by kernel_rfl) (Eq.mpr (by kernel_rfl : denFn Try.prog { loops := [(2, { slots := [(5, .int .i64)], cells := [] })] } Try.f40 [.pointer (some ⟨n, 0, none⟩), .int .i64 k] R w = sx40 n k R w) h)

/- (*reprise/repriseref16.Net).take -/
def sx41 (n : Nat) (at1 : Int) (R : Ending → World → Prop) (w : World) : Prop :=
  ∀ w1, Grew w w1 → ∃ (a2 : Option Addr) (l2 c2 : Nat), w1.cell? ⟨n, 1, none⟩ = some (.slice a2 l2 c2) ∧ withSome a2 (fun d3 => (0 ≤ at1 ∧ at1 < (l2 : Nat)) ∧ ∃ (n4 : Int) (n5 : Int) (n6 : Int) (n7 : Int) (n8 : Int) (n9 :
    Int) (a10 : Option Addr) (l10 c10 : Nat) (a11 : Option Addr) (l11 c11 : Nat) (a12 : Option Addr) (l12 c12 : Nat), CellsAt w1 (Addr.add (Addr.add d3 (at1.toNat * 10)) 1) 0 [.int .i64 n4, .int .i64 n5, .int .i64 n6,
    .int .i64 n7, .int .i64 n8, .int .i64 n9, .slice a10 l10 c10, .slice a11 l11 c11, .slice a12 l12 c12] ∧ ∀ w13, Grew w1 w13 → ∀ (b14 : Nat) (w15 : World), Alloc w13 w15 b14 (.cells #[] 55) → ∃ (a16 : Option Addr) (l16
    c16 : Nat), w15.cell? ⟨n, 1, none⟩ = some (.slice a16 l16 c16) ∧ (0 ≤ at1 ∧ at1 ≤ (c16 : Nat)) ∧ SemW Try.prog (Builtin.append_ #[40, 40] 40 #[.slice (some ⟨b14, 0, none⟩) 0 0, .slice a16 at1.toNat c16]) (fun u18 w17
    => ∃ (a19 : Option Addr) (l19 c19 : Nat), u18 = .slice a19 l19 c19 ∧ ∃ (a20 : Option Addr) (l20 c20 : Nat), w17.cell? ⟨n, 1, none⟩ = some (.slice a20 l20 c20) ∧ (0 ≤ IntKind.i64.wrap (at1 + 1) ∧ IntKind.i64.wrap (at1
    + 1) ≤ (l20 : Nat)) ∧ SemW Try.prog (Builtin.append_ #[40, 40] 40 #[.slice a19 l19 c19, .slice (if c20 = (IntKind.i64.wrap (at1 + 1)).toNat then a20 else Option.map (fun x => Addr.add x ((IntKind.i64.wrap (at1 +
    1)).toNat * 10)) a20) (l20 - (IntKind.i64.wrap (at1 + 1)).toNat) (c20 - (IntKind.i64.wrap (at1 + 1)).toNat)]) (fun u22 w21 => ∃ (a23 : Option Addr) (l23 c23 : Nat), u22 = .slice a23 l23 c23 ∧ RoomAt w21 ⟨n, 1, none⟩ 0
    [.slice a23 l23 c23] ∧ ∀ w24, w24 = setCells w21 ⟨n, 1, none⟩ 0 [.slice a23 l23 c23] → R (.returned (.agg #[.int .i64 n4, .int .i64 n5, .int .i64 n6, .int .i64 n7, .int .i64 n8, .int .i64 n9, .slice a10 l10 c10,
    .slice a11 l11 c11, .slice a12 l12 c12])) w24) w17) w15)
theorem sx41.ok {n : Nat} {at1 : Int} {R : Ending → World → Prop} {w : World} (h : sx41 n at1 R w) : CallsW Try.prog 41 [.pointer (some ⟨n, 0, none⟩), .int .i64 at1] w R :=
  callsW_of mix Try.func41 (by kernel_rfl) (by kernel_rfl) (Eq.mpr (by kernel_rfl : denFn Try.prog { locals := [4, 5], sem := [23, 32] } Try.f41 [.pointer (some ⟨n, 0, none⟩), .int .i64 at1] R w = sx41 n at1 R w) h)

/- (*reprise/repriseref16.Net).Send -/
def sx23 (n : Nat) (m_0 : Int) (m_1 : Int) (m_2 : Int) (m_3 : Int) (m_4 : Int) (m_5 : Int) (m_6 : Option Addr) (m_6_n m_6_c : Nat) (m_7 : Option Addr) (m_7_n m_7_c : Nat) (m_8 : Option Addr) (m_8_n m_8_c : Nat) (R : Ending → World → Prop) (w : World) : Prop :=
  ∀ w1, Grew w w1 → CallsW Try.prog 39 [.agg #[.int .i64 m_0, .int .i64 m_1, .int .i64 m_2, .int .i64 m_3, .int .i64 m_4, .int .i64 m_5, .slice m_6 m_6_n m_6_c, .slice m_7 m_7_n m_7_c, .slice m_8 m_8_n m_8_c]] w1 (RetR R
    fun u3 w2 => ∃ (b4 : Bool), u3 = .bool b4 ∧ (((!b4) = true → R (.returned (.tuple #[.int .i64 0, .int .i64 150])) w2) ∧ ((!b4) = false → ∃ (a6 : Option Addr) (l6 c6 : Nat), w2.cell? ⟨n, 1, none⟩ = some (.slice a6 l6
    c6) ∧ ∃ (n7 : Int), w2.cell? ⟨n, 0, none⟩ = some (.int .i64 n7) ∧ ∀ w8, Grew w2 w8 → (((decide (((l6 : Nat) : Int) ≥ n7)) = true → R (.returned (.tuple #[.int .i64 0, .int .i64 160])) w8) ∧ ((decide (((l6 : Nat) :
    Int) ≥ n7)) = false → ∀ w9, Grew w8 w9 → ∃ (a10 : Option Addr) (l10 c10 : Nat), w9.cell? ⟨n, 1, none⟩ = some (.slice a10 l10 c10) ∧ ∃ (n11 : Int), w9.cell? ⟨n, 2, none⟩ = some (.int .i64 n11) ∧ CallsW Try.prog 30
    [.agg #[.int .i64 m_0, .int .i64 m_1, .int .i64 m_2, .int .i64 m_3, .int .i64 m_4, .int .i64 m_5, .slice m_6 m_6_n m_6_c, .slice m_7 m_7_n m_7_c, .slice m_8 m_8_n m_8_c]] w9 (Ret (fun u13 w12 => ∃ (n14 : Int) (n15 :
    Int) (n16 : Int) (n17 : Int) (n18 : Int) (n19 : Int) (a20 : Option Addr) (l20 c20 : Nat) (a21 : Option Addr) (l21 c21 : Nat) (a22 : Option Addr) (l22 c22 : Nat), u13 = .agg #[.int .i64 n14, .int .i64 n15, .int .i64
    n16, .int .i64 n17, .int .i64 n18, .int .i64 n19, .slice a20 l20 c20, .slice a21 l21 c21, .slice a22 l22 c22] ∧ SameB w9 w12 [⟨n, 2, none⟩, ⟨n, 1, none⟩] ∧ ∀ (b24 : Nat) (w25 : World), Alloc w12 w25 b24 (.cells #[.int
    .i64 n11, .int .i64 n14, .int .i64 n15, .int .i64 n16, .int .i64 n17, .int .i64 n18, .int .i64 n19, .slice a20 l20 c20, .slice a21 l21 c21, .slice a22 l22 c22] 55) → SameB w12 w25 [⟨n, 2, none⟩, ⟨n, 1, none⟩] ∧ SemW
    Try.prog (Builtin.append_ #[40, 40] 40 #[.slice a10 l10 c10, .slice (some ⟨b24, 0, none⟩) 1 1]) (fun u27 w26 => ∃ (a28 : Option Addr) (l28 c28 : Nat), u27 = .slice a28 l28 c28 ∧ RoomAt w26 ⟨n, 1, none⟩ 0 [.slice a28
    l28 c28] ∧ ∀ w29, w29 = setCells w26 ⟨n, 1, none⟩ 0 [.slice a28 l28 c28] → ∃ (n30 : Int), w29.cell? ⟨n, 2, none⟩ = some (.int .i64 n30) ∧ RoomAt w29 ⟨n, 2, none⟩ 0 [.int .i64 (IntKind.i64.wrap (n30 + 1))] ∧ ∀ w31, w31
    = setCells w29 ⟨n, 2, none⟩ 0 [.int .i64 (IntKind.i64.wrap (n30 + 1))] → ∃ (n32 : Int), w31.cell? ⟨n, 2, none⟩ = some (.int .i64 n32) ∧ R (.returned (.tuple #[.int .i64 (IntKind.i64.wrap (n32 - 1)), .int .i64 0]))
    w31) w25) (fun c23 w12 => False)))))))
theorem sx23.ok {n : Nat} {m_0 : Int} {m_1 : Int} {m_2 : Int} {m_3 : Int} {m_4 : Int} {m_5 : Int} {m_6 : Option Addr} {m_6_n m_6_c : Nat} {m_7 : Option Addr} {m_7_n m_7_c : Nat} {m_8 : Option Addr} {m_8_n m_8_c : Nat} {R : Ending → World → Prop} {w : World} (h : sx23 n m_0 m_1 m_2 m_3 m_4 m_5 m_6 m_6_n m_6_c m_7 m_7_n m_7_c m_8 m_8_n m_8_c R w) : CallsW Try.prog 23 [.pointer (some ⟨n, 0, none⟩), .agg #[.int .i64 m_0, .int .i64 m_1, .int .i64 m_2, .int .i64 m_3, .int .i64 m_4, .int .i64 m_5, .slice m_6 m_6_n m_6_c, .slice m_7 m_7_n m_7_c, .slice m_8 m_8_n m_8_c]] w R :=
  callsW_of mix Try.func23 (by kernel_rfl) (by kernel_rfl) (Eq.mpr (by kernel_rfl : denFn Try.prog { locals := [3], known := [7], sem := [34], draws := [(7, { order := (.cons 0 (.cons 1 (.cons 2 (.cons 3 (.cons 4 (.cons 5 (.cons 6 (.cons 7 (.cons 8 (.cons 9 (.cons 10 (.cons 11 (.cons 12 (.cons 13 (.cons 14 (.cons 15 (.cons 16 .nil))))))))))))))))), bars := [13, 16] })] } Try.f23 [.pointer (some ⟨n, 0, none⟩), .agg #[.int .i64 m_0, .int .i64 m_1, .int .i64 m_2, .int .i64 m_3, .int .i64 m_4, .int .i64 m_5, .slice m_6 m_6_n m_6_c, .slice m_7 m_7_n m_7_c, .slice m_8 m_8_n m_8_c]] R w = sx23 n m_0 m_1 m_2 m_3 m_4 m_5 m_6 m_6_n m_6_c m_7 m_7_n m_7_c m_8 m_8_n m_8_c R w) h)

/- (*reprise/repriseref16.Net).Deliver -/
def sx24 (n : Nat) (k : Int) (R : Ending → World → Prop) (w : World) : Prop :=
  ∀ w1, Grew w w1 → CallsW Try.prog 40 [.pointer (some ⟨n, 0, none⟩), .int .i64 k] w1 (RetR R fun u3 w2 => ∃ (n4 : Int), u3 = .int .i64 n4 ∧ (((decide (n4 < 0)) = true → R (.returned (.tuple #[.agg #[.int .i64 0, .int .i64
    0, .int .i64 0, .int .i64 0, .int .i64 0, .int .i64 0, .slice none 0 0, .slice none 0 0, .slice none 0 0], .int .i64 161])) w2) ∧ ((decide (n4 < 0)) = false → CallsW Try.prog 41 [.pointer (some ⟨n, 0, none⟩), .int
    .i64 n4] w2 (RetR R fun u7 w6 => ∃ (n8 : Int) (n9 : Int) (n10 : Int) (n11 : Int) (n12 : Int) (n13 : Int) (a14 : Option Addr) (l14 c14 : Nat) (a15 : Option Addr) (l15 c15 : Nat) (a16 : Option Addr) (l16 c16 : Nat), u7
    = .agg #[.int .i64 n8, .int .i64 n9, .int .i64 n10, .int .i64 n11, .int .i64 n12, .int .i64 n13, .slice a14 l14 c14, .slice a15 l15 c15, .slice a16 l16 c16] ∧ R (.returned (.tuple #[.agg #[.int .i64 n8, .int .i64 n9,
    .int .i64 n10, .int .i64 n11, .int .i64 n12, .int .i64 n13, .slice a14 l14 c14, .slice a15 l15 c15, .slice a16 l16 c16], .int .i64 0])) w6))))
theorem sx24.ok {n : Nat} {k : Int} {R : Ending → World → Prop} {w : World} (h : sx24 n k R w) : CallsW Try.prog 24 [.pointer (some ⟨n, 0, none⟩), .int .i64 k] w R :=
  callsW_of mix Try.func24 (by kernel_rfl) (by kernel_rfl) (Eq.mpr (by kernel_rfl : denFn Try.prog { locals := [4], known := [8] } Try.f24 [.pointer (some ⟨n, 0, none⟩), .int .i64 k] R w = sx24 n k R w) h)

/- (*reprise/repriseref16.Net).Drop -/
def sx25 (n : Nat) (k : Int) (R : Ending → World → Prop) (w : World) : Prop :=
  CallsW Try.prog 24 [.pointer (some ⟨n, 0, none⟩), .int .i64 k] w (RetR R fun u2 w1 => ∃ (n3 : Int) (n4 : Int) (n5 : Int) (n6 : Int) (n7 : Int) (n8 : Int) (a9 : Option Addr) (l9 c9 : Nat) (a10 : Option Addr) (l10 c10 :
    Nat) (a11 : Option Addr) (l11 c11 : Nat) (n12 : Int), u2 = .tuple #[.agg #[.int .i64 n3, .int .i64 n4, .int .i64 n5, .int .i64 n6, .int .i64 n7, .int .i64 n8, .slice a9 l9 c9, .slice a10 l10 c10, .slice a11 l11 c11],
    .int .i64 n12] ∧ ∀ w14, Grew w1 w14 → R (.returned (.int .i64 n12)) w14)
theorem sx25.ok {n : Nat} {k : Int} {R : Ending → World → Prop} {w : World} (h : sx25 n k R w) : CallsW Try.prog 25 [.pointer (some ⟨n, 0, none⟩), .int .i64 k] w R :=
  callsW_of mix Try.func25 (by kernel_rfl) (by kernel_rfl) (Eq.mpr (by kernel_rfl : denFn Try.prog { locals := [5] } Try.f25 [.pointer (some ⟨n, 0, none⟩), .int .i64 k] R w = sx25 n k R w) h)

/- (*reprise/repriseref16.Net).Copy -/
def sx26 (n : Nat) (k : Int) (R : Ending → World → Prop) (w : World) : Prop :=
  CallsW Try.prog 40 [.pointer (some ⟨n, 0, none⟩), .int .i64 k] w (RetR R fun u2 w1 => ∃ (n3 : Int), u2 = .int .i64 n3 ∧ (((decide (n3 < 0)) = true → R (.returned (.tuple #[.int .i64 0, .int .i64 161])) w1) ∧ ((decide (n3
    < 0)) = false → ∃ (a5 : Option Addr) (l5 c5 : Nat), w1.cell? ⟨n, 1, none⟩ = some (.slice a5 l5 c5) ∧ withSome a5 (fun d6 => (0 ≤ n3 ∧ n3 < (l5 : Nat)) ∧ ∃ (n7 : Int) (n8 : Int) (n9 : Int) (n10 : Int) (n11 : Int) (n12
    : Int) (a13 : Option Addr) (l13 c13 : Nat) (a14 : Option Addr) (l14 c14 : Nat) (a15 : Option Addr) (l15 c15 : Nat), CellsAt w1 (Addr.add (Addr.add d6 (n3.toNat * 10)) 1) 0 [.int .i64 n7, .int .i64 n8, .int .i64 n9,
    .int .i64 n10, .int .i64 n11, .int .i64 n12, .slice a13 l13 c13, .slice a14 l14 c14, .slice a15 l15 c15] ∧ CallsW Try.prog 23 [.pointer (some ⟨n, 0, none⟩), .agg #[.int .i64 n7, .int .i64 n8, .int .i64 n9, .int .i64
    n10, .int .i64 n11, .int .i64 n12, .slice a13 l13 c13, .slice a14 l14 c14, .slice a15 l15 c15]] w1 (RetR R fun u17 w16 => ∃ (n18 : Int) (n19 : Int), u17 = .tuple #[.int .i64 n18, .int .i64 n19] ∧ R (.returned (.tuple
    #[.int .i64 n18, .int .i64 n19])) w16)))))
theorem sx26.ok {n : Nat} {k : Int} {R : Ending → World → Prop} {w : World} (h : sx26 n k R w) : CallsW Try.prog 26 [.pointer (some ⟨n, 0, none⟩), .int .i64 k] w R :=
  callsW_of mix Try.func26 (by kernel_rfl) (by kernel_rfl) (Eq.mpr (by kernel_rfl : denFn Try.prog { known := [8] } Try.f26 [.pointer (some ⟨n, 0, none⟩), .int .i64 k] R w = sx26 n k R w) h)

/- (*reprise/repriseref16.Net).Next -/
def sx15 (n : Nat) (R : Ending → World → Prop) (w : World) : Prop :=
  ∃ (n1 : Int), w.cell? ⟨n, 2, none⟩ = some (.int .i64 n1) ∧ R (.returned (.int .i64 n1)) w
theorem sx15.ok {n : Nat} {R : Ending → World → Prop} {w : World} (h : sx15 n R w) : CallsW Try.prog 15 [.pointer (some ⟨n, 0, none⟩)] w R :=
  callsW_of mix Try.func15 (by kernel_rfl) (by kernel_rfl) (Eq.mpr (by kernel_rfl : denFn Try.prog { known := [4] } Try.f15 [.pointer (some ⟨n, 0, none⟩)] R w = sx15 n R w) h)

/- (*reprise/repriseref16.Net).Flights -/
def sx13 (n : Nat) (R : Ending → World → Prop) (w : World) : Prop :=
  ∀ (b1 : Nat) (w2 : World), Alloc w w2 b1 (.cells #[] 55) → ∃ (I3 : Option Addr → Nat → Nat → Int → World → Prop) (m3 : Option Addr → Nat → Nat → Int → World → Nat), I3 (some ⟨b1, 0, none⟩) 0 0 0 w2 ∧ ∀ (a4 : Option Addr)
    (l4 c4 : Nat) (n5 : Int) (w6 : World), I3 a4 l4 c4 n5 w6 → ∃ (a7 : Option Addr) (l7 c7 : Nat), w6.cell? ⟨n, 1, none⟩ = some (.slice a7 l7 c7) ∧ (((decide (n5 < ((l7 : Nat) : Int))) = true → ∀ w8, Grew w6 w8 → ∃ (a9 :
    Option Addr) (l9 c9 : Nat), w8.cell? ⟨n, 1, none⟩ = some (.slice a9 l9 c9) ∧ withSome a9 (fun d10 => (0 ≤ n5 ∧ n5 < (l9 : Nat)) ∧ ∃ (n11 : Int), w8.cell? (Addr.add d10 (n5.toNat * 10)) = some (.int .i64 n11) ∧ ∃ (a12
    : Option Addr) (l12 c12 : Nat), w8.cell? ⟨n, 1, none⟩ = some (.slice a12 l12 c12) ∧ withSome a12 (fun d13 => (0 ≤ n5 ∧ n5 < (l12 : Nat)) ∧ ∃ (n14 : Int) (n15 : Int) (n16 : Int) (n17 : Int) (n18 : Int) (n19 : Int) (a20
    : Option Addr) (l20 c20 : Nat) (a21 : Option Addr) (l21 c21 : Nat) (a22 : Option Addr) (l22 c22 : Nat), CellsAt w8 (Addr.add (Addr.add d13 (n5.toNat * 10)) 1) 0 [.int .i64 n14, .int .i64 n15, .int .i64 n16, .int .i64
    n17, .int .i64 n18, .int .i64 n19, .slice a20 l20 c20, .slice a21 l21 c21, .slice a22 l22 c22] ∧ CallsW Try.prog 30 [.agg #[.int .i64 n14, .int .i64 n15, .int .i64 n16, .int .i64 n17, .int .i64 n18, .int .i64 n19,
    .slice a20 l20 c20, .slice a21 l21 c21, .slice a22 l22 c22]] w8 (Ret (fun u24 w23 => ∃ (n25 : Int) (n26 : Int) (n27 : Int) (n28 : Int) (n29 : Int) (n30 : Int) (a31 : Option Addr) (l31 c31 : Nat) (a32 : Option Addr)
    (l32 c32 : Nat) (a33 : Option Addr) (l33 c33 : Nat), u24 = .agg #[.int .i64 n25, .int .i64 n26, .int .i64 n27, .int .i64 n28, .int .i64 n29, .int .i64 n30, .slice a31 l31 c31, .slice a32 l32 c32, .slice a33 l33 c33] ∧
    SameB w8 w23 [(Addr.add (Addr.add d13 (n5.toNat * 10)) 1), ⟨n, 1, none⟩, (Addr.add d10 (n5.toNat * 10)), ⟨n, 1, none⟩] ∧ ∀ (b35 : Nat) (w36 : World), Alloc w23 w36 b35 (.cells #[.int .i64 n11, .int .i64 n25, .int .i64
    n26, .int .i64 n27, .int .i64 n28, .int .i64 n29, .int .i64 n30, .slice a31 l31 c31, .slice a32 l32 c32, .slice a33 l33 c33] 55) → SemW Try.prog (Builtin.append_ #[40, 40] 40 #[.slice a4 l4 c4, .slice (some ⟨b35, 0,
    none⟩) 1 1]) (fun u38 w37 => ∃ (a39 : Option Addr) (l39 c39 : Nat), u38 = .slice a39 l39 c39 ∧ (I3 a39 l39 c39 (IntKind.i64.wrap (n5 + 1)) w37 ∧ m3 a39 l39 c39 (IntKind.i64.wrap (n5 + 1)) w37 < m3 a4 l4 c4 n5 w6))
    w36) (fun c34 w23 => False))))) ∧ ((decide (n5 < ((l7 : Nat) : Int))) = false → R (.returned (.slice a4 l4 c4)) w6))
theorem sx13.ok {n : Nat} {R : Ending → World → Prop} {w : World} (h : sx13 n R w) : CallsW Try.prog 13 [.pointer (some ⟨n, 0, none⟩)] w R :=
  callsW_of mix Try.func13 (by kernel_rfl) (by kernel_rfl) (Eq.mpr (by kernel_rfl : denFn Try.prog { known := [7], sem := [39], draws := [(5, { order := (.cons 0 (.cons 1 (.cons 2 (.cons 3 (.cons 4 (.cons 5 (.cons 6 (.cons 7 (.cons 8 (.cons 9 (.cons 10 (.cons 11 (.cons 12 (.cons 13 (.cons 14 (.cons 15 (.cons 16 (.cons 17 (.cons 18 (.cons 19 (.cons 20 (.cons 21 .nil)))))))))))))))))))))), bars := [19, 20] })], loops := [(3, { slots := [(3, .slice), (4, .int .i64)], cells := [] })] } Try.f13 [.pointer (some ⟨n, 0, none⟩)] R w = sx13 n R w) h)


structure RefAt (w : World) (B p : Nat) (a : Option Addr) (n c : Nat) (most next : Int) (L : List (Int × Msg)) : Prop where
  row : Row w p 67 [.int .i64 most, .slice a n c, .int .i64 next]
  own : Own w B 55 Enc.flight a n c L
  msgs : MsOk w B L
  rise : Rise L next
  n0 : 0 ≤ next
  pB : B ≤ p
  m0 : 0 ≤ most ∧ most ≤ 4096
  room : (L.length : Int) ≤ most
def RFoot (p : Nat) (a : Option Addr) (L : List (Int × Msg)) (b : Nat) : Prop := b = p ∨ Blk a b ∨ Feet L b
theorem RefAt.upd {S : Nat → Prop} {w w' : World} {B p : Nat} {a : Option Addr} {n c : Nat} {most next : Int} {L : List (Int × Msg)} (h : RefAt w B p a n c most next L) (hu : Upd S w w') (hn : ∀ b, RFoot p a L b → ¬ S b) : RefAt w' B p a n c most next L :=
  ⟨h.row.upd hu (hn p (.inl rfl)), h.own.upd hu fun b hb => hn b (.inr (.inl hb)), h.msgs.upd hu fun b hb => hn b (.inr (.inr hb)), h.rise, h.n0, h.pB, h.m0, h.room⟩
theorem RefAt.grew {w w' : World} {B p : Nat} {a : Option Addr} {n c : Nat} {most next : Int} {L : List (Int × Msg)} (h : RefAt w B p a n c most next L) (hg : Grew w w') : RefAt w' B p a n c most next L := h.upd (hg.upd (S := fun _ => False)) fun _ _ h => h
theorem RefAt.foot {w : World} {B p : Nat} {a : Option Addr} {n c : Nat} {most next : Int} {L : List (Int × Msg)} (h : RefAt w B p a n c most next L) {b : Nat} (hb : RFoot p a L b) : B ≤ b ∧ b < w.heap.size := by
  rcases hb with rfl | hb | hb
  · exact ⟨h.pB, h.row.lt⟩
  · exact h.own.blk hb
  · exact h.msgs.blk hb
theorem RefAt.pa {w : World} {B p : Nat} {a : Option Addr} {n c : Nat} {most next : Int} {L : List (Int × Msg)} (h : RefAt w B p a n c most next L) : ¬ Blk a p := fun hb => by
  obtain ⟨cur, hc⟩ := h.own.obj hb
  rw [show w.heap[p]? = _ from h.row] at hc
  exact absurd (Obj.cells.inj (Option.some.inj hc)).2.1 (by decide)
theorem RefAt.pfree {w : World} {B p : Nat} {a : Option Addr} {n c : Nat} {most next : Int} {L : List (Int × Msg)} (h : RefAt w B p a n c most next L) : ¬ Feet L p := fun ⟨x, hx, hb⟩ => (h.msgs.own x hx).not_row h.row (by decide) (by decide) (by decide) hb
theorem RefAt.afree {w : World} {B p : Nat} {a : Option Addr} {n c : Nat} {most next : Int} {L : List (Int × Msg)} (h : RefAt w B p a n c most next L) : ∀ b, Feet L b → ¬ Blk a b := fun b ⟨x, hx, hb⟩ => row_not_own h.own (h.msgs.own x hx) (by decide) (by decide) (by decide) b hb

theorem rNew_ok {most : Int} {w : World} : CallsW Try.prog 9 [.int .i64 most] w (Rets fun v w' => Grew w w' ∧ ((most < 0 ∨ 4096 < most) ∧ v = .tuple #[.pointer none, .int .i64 1] ∨ (0 ≤ most ∧ most ≤ 4096) ∧ ∃ p, v = .tuple #[.pointer (some ⟨p, 0, none⟩), .int .i64 0] ∧ RefAt w' w.heap.size p none 0 0 most 0 [])) := by
  refine sx9.ok ?_
  unfold sx9
  refine ⟨fun h => ?_, fun h => ⟨fun h2 => ?_, fun h2 => ?_⟩⟩
  all_goals simp only [decide_eq_true_eq, decide_eq_false_iff_not] at *
  · exact ⟨_, rfl, Grew.refl _, .inl ⟨.inl h, rfl⟩⟩
  · exact ⟨_, rfl, Grew.refl _, .inl ⟨.inr h2, rfl⟩⟩
  · exact fun p w2 hal => ⟨_, rfl, hal.grew, .inr ⟨⟨by omega, by omega⟩, p, rfl, ⟨hal.at_, Own.nil _ _ _ _, ⟨by simp, by simp, List.Pairwise.nil⟩, ⟨List.Pairwise.nil, by simp⟩, Int.le_refl _, hal.new, ⟨by omega, by omega⟩, by simp; omega⟩⟩⟩

theorem place_ok {w : World} {B p : Nat} {a : Option Addr} {n c : Nat} {most next k : Int} {L : List (Int × Msg)} (h : RefAt w B p a n c most next L) :
    CallsW Try.prog 40 [.pointer (some ⟨p, 0, none⟩), .int .i64 k] w (Rets fun v w' => w' = w ∧ ((∃ (i : Nat) (x : Msg), L[i]? = some (k, x) ∧ v = .int .i64 i) ∨ (getM L k = none ∧ v = .int .i64 (-1)))) := by
  refine sx40.ok ?_
  unfold sx40
  have hl := h.own.len
  have hroom := h.room; have hm0 := h.m0
  refine ⟨fun i w' => ∃ j : Nat, i = j ∧ j ≤ n ∧ (∀ x ∈ L.take j, x.1 ≠ k) ∧ w' = w, fun i _ => n - i.toNat, ⟨0, rfl, Nat.zero_le _, by simp, rfl⟩, ?_⟩
  rintro i w3 ⟨j, rfl, hj, hno, rfl⟩
  refine ⟨a, n, c, by rw [h.row.cell]; rfl, fun hlt => ?_, fun hge => ?_⟩
  · simp only [decide_eq_true_eq] at hlt
    obtain ⟨d, x, hd, hx, hc⟩ := h.own.reads.at0 (k := j) (by omega)
    obtain ⟨c1, -⟩ := fl_cells hc
    have hw : IntKind.i64.wrap ((j : Int) + 1) = ((j + 1 : Nat) : Int) := by rw [IntKind.wrap_i64]; omega
    refine ⟨a, n, c, by rw [h.row.cell]; rfl, ?_⟩
    rw [hd, hw]
    refine ⟨⟨by omega, by omega⟩, x.1, c1, fun he => ?_, fun hne => ?_⟩
    · simp only [beq_iff_eq] at he
      subst he
      exact ⟨_, rfl, rfl, .inl ⟨j, x.2, hx, rfl⟩⟩
    · simp only [beq_eq_false_iff_ne, ne_eq] at hne
      refine ⟨⟨j + 1, rfl, by omega, fun y hy => ?_, rfl⟩, by show n - (((j + 1 : Nat) : Int)).toNat < n - ((j : Int)).toNat; omega⟩
      rw [take_snoc hx] at hy
      rcases List.mem_append.1 hy with hy | hy
      · exact hno y hy
      · simp at hy; subst hy; exact hne
  · simp only [decide_eq_false_iff_not] at hge
    rw [List.take_of_length_le (by omega)] at hno
    refine ⟨_, rfl, rfl, .inr ⟨?_, rfl⟩⟩
    unfold getM
    rw [List.find?_eq_none.2 (by intro x hx; simpa using hno x hx)]; rfl

theorem take_drop_del {L : List (Int × Msg)} {next : Int} (h : Rise L next) {i : Nat} {k : Int} {x : Msg} (hi : L[i]? = some (k, x)) : L.take i ++ L.drop (i + 1) = delM L k := by
  have hil := (List.getElem?_eq_some_iff.1 hi).1
  have h1 := List.pairwise_iff_getElem.1 h.1
  have hne : ∀ (j : Nat) (y : Int × Msg), L[j]? = some y → j ≠ i → y.1 ≠ k := by
    intro j y hj hji e
    have hjl := (List.getElem?_eq_some_iff.1 hj).1
    have hi' := hi; have hj' := hj
    rw [List.getElem?_eq_getElem hil] at hi'; rw [List.getElem?_eq_getElem hjl] at hj'
    have ei := Option.some.inj hi'; have ej := Option.some.inj hj'
    rcases Nat.lt_or_ge i j with hlt | hge
    · have := h1 i j (by simpa using hil) (by simpa using hjl) hlt
      simp only [List.getElem_map] at this
      rw [ei, ej] at this; simp only at this; omega
    · have := h1 j i (by simpa using hjl) (by simpa using hil) (by omega)
      simp only [List.getElem_map] at this
      rw [ei, ej] at this; simp only at this; omega
  have hs : L = L.take i ++ (k, x) :: L.drop (i + 1) := by
    have := List.drop_eq_getElem_cons hil
    rw [List.getElem?_eq_getElem hil] at hi
    rw [Option.some.inj hi] at this
    rw [← this, List.take_append_drop]
  unfold delM
  conv => rhs; rw [hs]
  rw [List.filter_append, List.filter_cons]
  have f1 : (L.take i).filter (fun p => !(p.1 == k)) = L.take i := List.filter_eq_self.2 fun y hy => by
    obtain ⟨j, hj⟩ := List.getElem?_of_mem hy
    rw [List.getElem?_take] at hj
    split at hj
    · simpa using hne j y hj (by omega)
    · cases hj
  have f2 : (L.drop (i + 1)).filter (fun p => !(p.1 == k)) = L.drop (i + 1) := List.filter_eq_self.2 fun y hy => by
    obtain ⟨j, hj⟩ := List.getElem?_of_mem hy
    rw [List.getElem?_drop] at hj
    simpa using hne (i + 1 + j) y hj (by omega)
  rw [f1, f2, if_neg (by simp)]

/-- one taken out -/
def Took (w : World) (B p : Nat) (most next k : Int) (L : List (Int × Msg)) (x : Msg) (w' : World) : Prop :=
  ∃ (a' : Option Addr) (n' c' : Nat), RefAt w' B p a' n' c' most next (delM L k) ∧ (∀ b, Blk a' b → w.heap.size ≤ b) ∧ x.At w' ∧ Upd (fun b => b = p) w w'

theorem take_ok {w : World} {B p : Nat} {a : Option Addr} {n c i : Nat} {most next k : Int} {L : List (Int × Msg)} {x : Msg} (h : RefAt w B p a n c most next L) (hi : L[i]? = some (k, x)) (hB : B ≤ w.heap.size) :
    CallsW Try.prog 41 [.pointer (some ⟨p, 0, none⟩), .int .i64 i] w (Rets fun v w' => v = x.val ∧ Took w B p most next k L x w') := by
  refine sx41.ok ?_
  unfold sx41
  have hl := h.own.len
  have hroom := h.room; have hm0 := h.m0
  have hil := (List.getElem?_eq_some_iff.1 hi).1
  intro w1 hg1
  have h1 := h.grew hg1
  refine ⟨a, n, c, by rw [h1.row.cell]; rfl, ?_⟩
  obtain ⟨d, y, hd, hy, hc⟩ := h1.own.reads.at0 (k := i) (by omega)
  rw [hi] at hy; cases hy
  obtain ⟨-, c2⟩ := fl_cells hc
  have hle := h.own.le
  have hw : IntKind.i64.wrap ((i : Int) + 1) = ((i + 1 : Nat) : Int) := by rw [IntKind.wrap_i64]; omega
  have hrr := h1.own.reads
  rw [hd] at hrr ⊢
  refine ⟨⟨by omega, by omega⟩, _, _, _, _, _, _, _, _, _, _, _, _, _, _, _, c2, fun w13 hg13 b14 w15 hal15 => ?_⟩
  have hg15 := hg13.trans hal15.grew
  have h15 := h1.grew hg15
  refine ⟨a, n, c, by rw [h15.row.cell]; rfl, ⟨by omega, by omega⟩, ?_⟩
  have ho15 := Own.alloc (E := Enc.flight) (l := []) hal15 (Nat.le_refl _) rfl (by decide)
  have hcut := (h15.own.take (k := i) (by omega)).reads
  have s1 := hg1.size; have s13 := hg13.size; have s15 := hal15.grew.size
  have hti : (L.take i).length = i := by simp; omega
  simp only [Int.toNat_natCast]
  refine append_sl eFl ho15 hcut.1 hcut.2.1 hcut.2.2.1 s15 (by simp only [maxLen, List.length_nil]; omega) (by simp only [List.length_nil]; omega) ?_
  rintro v w17 ⟨a19, l19, c19, rfl, ho17, hu17, hb17⟩
  rw [List.nil_append] at ho17
  have hg17 : Grew w13 w17 := hal15.grew.then_own hu17 fun b hb => (ho15.blk hb).1
  have h17 := h1.grew (hg13.trans hg17)
  refine ⟨_, _, _, rfl, a, n, c, by rw [h17.row.cell]; rfl, ?_⟩
  rw [hw]
  refine ⟨⟨by omega, by omega⟩, ?_⟩
  simp only [Int.toNat_natCast]
  have hfrom : Reads w17 Enc.flight (if c = i + 1 then a else Option.map (fun x => Addr.add x ((i + 1) * 10)) a, n - (i + 1), c - (i + 1)) (L.drop (i + 1)) := h17.own.reads.from (i := i + 1) (by omega)
  have s17 := hg17.size
  refine append_sl eFl ho17 hfrom.1 hfrom.2.1 hfrom.2.2.1 s17 (by simp only [maxLen, List.length_drop]; omega) (by rw [List.length_drop]; omega) ?_
  rintro v w21 ⟨a23, l23, c23, rfl, ho21, hu21, hb21⟩
  rw [take_drop_del h.rise hi] at ho21
  have hg21 : Grew w13 w21 := hg17.then_own hu21 fun b hb => (ho17.blk hb).1
  have hg21' := hg1.trans (hg13.trans hg21)
  have h21 := h.grew hg21'
  obtain ⟨hroomp, hrow24, hu24⟩ := h21.row.set1 (o := 1) (by simp) (.slice a23 l23 c23)
  refine ⟨_, _, _, rfl, hroomp, ?_⟩
  rintro w24 rfl
  generalize setCells w21 ⟨p, 1, none⟩ 0 [.slice a23 l23 c23] = w24 at hrow24 hu24 ⊢
  have hsub := delM_sub L k
  have hpb : ¬ Blk a23 p := fun hb => by
    have := (ho21.blk hb).1; have := h.row.lt; omega
  have hxm := List.mem_of_getElem? hi
  have hxo := (h21.msgs.own _ hxm).upd hu24 (fun b hb e => h21.pfree ⟨_, hxm, e ▸ hb⟩)
  refine ⟨_, rfl, rfl, a23, l23, c23, ⟨hrow24, (ho21.upd hu24 fun b hb e => hpb (e ▸ hb)).base (by omega), (h21.msgs.sub hsub).upd hu24 (fun b hb e => h21.pfree (Feet.sub hsub (e ▸ hb))), h.rise.sub hsub, h.n0, h.pB, h.m0, by have := hsub.length_le; omega⟩, fun b hb => by have := (ho21.blk hb).1; omega, hxo.at, (hg21'.upd (S := fun b => b = p)).trans hu24⟩

/-- what comes of a message put on its way -/
def RPut (w : World) (B p : Nat) (a : Option Addr) (most next : Int) (L : List (Int × Msg)) (m : MsgV) (v : Value) (w' : World) : Prop :=
  (((L.length : Int) ≥ most ∧ v = .tuple #[.int .i64 0, .int .i64 160] ∧ Grew w w') ∨
   ((L.length : Int) < most ∧ v = .tuple #[.int .i64 next, .int .i64 0] ∧ ∃ (y : Msg) (a' : Option Addr) (n' c' : Nat), y.c = m ∧ (∀ b, y.Blk b → w.heap.size ≤ b) ∧ (∀ b, Blk a' b → Blk a b ∨ w.heap.size ≤ b) ∧ RefAt w' B p a' n' c' most (next + 1) (L ++ [(next, y)]) ∧ Upd (fun b => b = p ∨ Blk a b) w w'))

theorem rSend_ok {w : World} {B p : Nat} {a : Option Addr} {n c : Nat} {most next : Int} {L : List (Int × Msg)} {x : Msg} (h : RefAt w B p a n c most next L) (hx : x.At w) (hf : x.c.Fits) (h1 : x.c.ends.length ≤ 9223372036854775806) (h2 : x.c.keys.length ≤ 9223372036854775806) (h3 : x.c.pairs.length ≤ 9223372036854775806)
    (hn : next < 4611686018427387904) (hB : B ≤ w.heap.size) :
    CallsW Try.prog 23 [.pointer (some ⟨p, 0, none⟩), x.val] w (Rets fun v w' => (soundMsg x.c = false ∧ v = .tuple #[.int .i64 0, .int .i64 150] ∧ Grew w w') ∨ (soundMsg x.c = true ∧ RPut w B p a most next L x.c v w')) := by
  refine sx23.ok ?_
  unfold sx23
  have hl := h.own.len
  have hroom := h.room; have hm0 := h.m0; have hn0 := h.n0
  intro w1 hg1
  refine (rMSound_ok (hx.grew hg1) h1 h2 h3).use fun v w2 ⟨hv, hg2⟩ => ?_
  subst hv
  have hg2 := hg1.trans hg2
  have hA2 := h.grew hg2
  refine ⟨_, rfl, fun hs => ?_, fun hs => ?_⟩
  · have hs' : soundMsg x.c = false := by simpa using hs
    exact ⟨_, rfl, .inl ⟨hs', rfl, hg2⟩⟩
  have hs' : soundMsg x.c = true := by simpa using hs
  have hsm := soundMsg_small hs'
  refine ⟨a, n, c, by rw [hA2.row.cell]; rfl, most, by rw [hA2.row.cell]; rfl, fun w8 hg8 => ⟨fun hge => ?_, fun hlt w9 hg9 => ?_⟩⟩
  · simp only [decide_eq_true_eq] at hge
    exact ⟨_, rfl, .inr ⟨hs', .inl ⟨by omega, rfl, hg2.trans hg8⟩⟩⟩
  simp only [decide_eq_false_iff_not] at hlt
  have hg9' := hg2.trans (hg8.trans hg9)
  have hA9 := h.grew hg9'
  refine ⟨a, n, c, by rw [hA9.row.cell]; rfl, next, by rw [hA9.row.cell]; rfl, ?_⟩
  refine (rCopied_ok (hx.grew hg9') (by omega) (by omega) (by omega)).use' fun v w12 ⟨y, hv, hyc, hy, hg12⟩ => ?_
  subst hv
  have hA12 := hA9.grew hg12
  have pl := hA9.row.lt
  have e12 := hg12.block p pl
  refine ⟨_, _, _, _, _, _, _, _, _, _, _, _, _, _, _, rfl, ⟨e12, e12, trivial⟩, fun b24 w25 hal25 => ?_⟩
  have e25 := hal25.grew.block p (by have := hg12.size; omega)
  refine ⟨⟨e25, e25, trivial⟩, ?_⟩
  have s9 := hg9'.size; have s12 := hg12.size; have s25 := hal25.grew.size
  refine append_new (l2 := [(next, y)]) eFl hA12.own hal25 (by simp [Enc.flight, Msg.vals]) rfl (by omega) (by simp only [maxLen, List.length_cons, List.length_nil]; omega) (by simp; omega) ?_
  rintro v w26 ⟨a28, l28, c28, rfl, ho26, hu26, hb26⟩
  have hrow26 := hA12.row.upd hu26 hA12.pa
  obtain ⟨hroomp, hrow29, hu29⟩ := hrow26.set1 (o := 1) (by simp) (.slice a28 l28 c28)
  refine ⟨_, _, _, rfl, hroomp, ?_⟩
  rintro w29 rfl
  generalize setCells w26 ⟨p, 1, none⟩ 0 [.slice a28 l28 c28] = w29 at hrow29 hu29 ⊢
  have hrow29 : Row w29 p 67 [.int .i64 most, .slice a28 l28 c28, .int .i64 next] := hrow29
  obtain ⟨hroomq, hrow31, hu31⟩ := hrow29.set1 (o := 2) (by simp) (.int .i64 (next + 1))
  have hw : IntKind.i64.wrap (next + 1) = next + 1 := by rw [IntKind.wrap_i64]; omega
  have hw' : IntKind.i64.wrap (next + 1 - 1) = next := by rw [IntKind.wrap_i64]; omega
  refine ⟨next, by rw [hrow29.cell]; rfl, ?_⟩
  rw [hw]
  refine ⟨hroomq, ?_⟩
  rintro w31 rfl
  generalize setCells w29 ⟨p, 2, none⟩ 0 [.int .i64 (next + 1)] = w31 at hrow31 hu31 ⊢
  have hrow31 : Row w31 p 67 [.int .i64 most, .slice a28 l28 c28, .int .i64 (next + 1)] := hrow31
  refine ⟨next + 1, by rw [hrow31.cell]; rfl, ?_⟩
  rw [hw']
  have hU : Upd (fun b => b = p ∨ Blk a b) w12 w31 := ((hu26.mono fun b _ hb => .inr hb).trans (hu29.mono fun b _ hb => .inl hb)).trans (hu31.mono fun b _ hb => .inl hb)
  have hP : Upd (fun b => b = p) w26 w31 := hu29.trans hu31
  have hpb : ¬ Blk a28 p := fun hb => by
    rcases hb26 p hb with h' | h'
    · exact hA12.pa h'
    · have := hA12.row.lt; omega
  have hm := hA12.msgs.snoc (k := next) hy (Nat.le_trans hB s9) (fun b hb => Nat.lt_of_lt_of_le (h.msgs.blk hb).2 s9) ⟨by rw [hyc]; exact hs', by rw [hyc]; exact hf⟩
  refine ⟨_, rfl, .inr ⟨hs', .inr ⟨by omega, rfl, y, a28, l28, c28, hyc, fun b hb => Nat.le_trans s9 (hy.blk hb).1, fun b hb => (hb26 b hb).imp id (fun h' => by omega), ⟨hrow31, (ho26.upd hP fun b hb e => hpb (e ▸ hb)), ?_, h.rise.snoc h.n0 y, by omega, h.pB, h.m0, by simp; omega⟩, ((hg9'.trans hg12).upd (S := fun b => b = p ∨ Blk a b)).trans hU⟩⟩⟩
  refine hm.upd hU fun b hb hS => ?_
  rcases hb.snoc with hb | hb
  · rcases hS with rfl | hS
    · exact h.pfree hb
    · exact hA12.afree b hb hS
  · rcases hS with rfl | hS
    · exact hy.not_row hA12.row (by decide) (by decide) (by decide) hb
    · exact row_not_own hA12.own hy (by decide) (by decide) (by decide) b hb hS

/-- what comes of a delivery -/
def RGot (w : World) (B p : Nat) (most next : Int) (L : List (Int × Msg)) (k : Int) (x : Msg) (e : Int) (w' : World) : Prop :=
  match getM L k with
  | none => x = msg0 ∧ e = 161 ∧ Grew w w'
  | some y => x = y ∧ e = 0 ∧ Took w B p most next k L y w'

theorem rDeliver_ok {w : World} {B p : Nat} {a : Option Addr} {n c : Nat} {most next k : Int} {L : List (Int × Msg)} (h : RefAt w B p a n c most next L) (hB : B ≤ w.heap.size) :
    CallsW Try.prog 24 [.pointer (some ⟨p, 0, none⟩), .int .i64 k] w (Rets fun v w' => ∃ x e, v = .tuple #[Msg.val x, .int .i64 e] ∧ RGot w B p most next L k x e w') := by
  refine sx24.ok ?_
  unfold sx24
  intro w1 hg1
  have h1 := h.grew hg1
  refine (place_ok (k := k) h1).use fun v w2 ⟨hw, hc⟩ => ?_
  subst hw
  unfold RGot
  rcases hc with ⟨i, x, hi, hv⟩ | ⟨hnone, hv⟩
  · subst hv
    have hget := h.rise.get hi
    rw [hget]
    refine ⟨_, rfl, fun h => (by simp only [decide_eq_true_eq] at h; omega), fun _ => (take_ok h1 hi (Nat.le_trans hB hg1.size)).use fun v w6 ⟨hv, a', n', c', hR, hb, hxat, hu⟩ => ?_⟩
    subst hv
    exact ⟨_, _, _, _, _, _, _, _, _, _, _, _, _, _, _, rfl, _, rfl, x, 0, rfl, rfl, rfl, a', n', c', hR, fun b hb' => Nat.le_trans hg1.size (hb b hb'), hxat, (hg1.upd (S := fun b => b = p)).trans hu⟩
  · subst hv
    rw [hnone]
    exact ⟨_, rfl, fun _ => ⟨_, rfl, msg0, 161, rfl, rfl, rfl, hg1⟩, fun h => (by simp at h)⟩

theorem rDrop_ok {w : World} {B p : Nat} {a : Option Addr} {n c : Nat} {most next k : Int} {L : List (Int × Msg)} (h : RefAt w B p a n c most next L) (hB : B ≤ w.heap.size) :
    CallsW Try.prog 25 [.pointer (some ⟨p, 0, none⟩), .int .i64 k] w (Rets fun v w' => ∃ x e, v = .int .i64 e ∧ RGot w B p most next L k x e w') := by
  refine sx25.ok ?_
  unfold sx25
  refine (rDeliver_ok (k := k) h hB).use fun v w1 ⟨x, e, hv, hG⟩ => ?_
  subst hv
  refine ⟨_, _, _, _, _, _, _, _, _, _, _, _, _, _, _, _, rfl, fun w14 hg14 => ⟨_, rfl, x, e, rfl, ?_⟩⟩
  unfold RGot at hG ⊢
  cases hg : getM L k with
  | none => rw [hg] at hG; exact ⟨hG.1, hG.2.1, hG.2.2.trans hg14⟩
  | some y =>
    rw [hg] at hG
    obtain ⟨h1, h2, a', n', c', h3, h4, h5, h6⟩ := hG
    exact ⟨h1, h2, a', n', c', h3.grew hg14, h4, h5.grew hg14, h6.trans (hg14.upd)⟩

theorem rCopy_ok {w : World} {B p : Nat} {a : Option Addr} {n c : Nat} {most next k : Int} {L : List (Int × Msg)} (h : RefAt w B p a n c most next L) (hn : next < 4611686018427387904) (hB : B ≤ w.heap.size) :
    CallsW Try.prog 26 [.pointer (some ⟨p, 0, none⟩), .int .i64 k] w (Rets fun v w' => match getM L k with | none => v = .tuple #[.int .i64 0, .int .i64 161] ∧ Grew w w' | some y => RPut w B p a most next L y.c v w') := by
  refine sx26.ok ?_
  unfold sx26
  have hl := h.own.len
  refine (place_ok (k := k) h).use fun v w1 ⟨hw, hc⟩ => ?_
  subst hw
  rcases hc with ⟨i, x, hi, hv⟩ | ⟨hnone, hv⟩
  · subst hv
    have hget := h.rise.get hi
    simp only at hget
    rw [hget]
    have hil := (List.getElem?_eq_some_iff.1 hi).1
    obtain ⟨d, y, hd, hy, hc⟩ := h.own.reads.at0 (k := i) (by omega)
    rw [hi] at hy; cases hy
    obtain ⟨-, c2⟩ := fl_cells hc
    refine ⟨_, rfl, fun h => (by simp only [decide_eq_true_eq] at h; omega), fun _ => ⟨a, n, c, by rw [h.row.cell]; rfl, ?_⟩⟩
    rw [hd]
    refine ⟨⟨by omega, by omega⟩, _, _, _, _, _, _, _, _, _, _, _, _, _, _, _, c2, ?_⟩
    have hxm := List.mem_of_getElem? hi
    have hok := h.msgs.ok _ hxm
    simp only at hok
    have hsm := soundMsg_small hok.1
    refine (rSend_ok (x := x) h (h.msgs.own _ hxm).at hok.2 (by omega) (by omega) (by omega) hn hB).use fun v w16 hp => ?_
    rcases hp with ⟨hs, -⟩ | ⟨-, ⟨hr, hv, hg⟩ | ⟨hr, hv, rest⟩⟩
    · rw [hok.1] at hs; cases hs
    · subst hv; exact ⟨_, _, rfl, _, rfl, .inl ⟨hr, rfl, hg⟩⟩
    · subst hv; exact ⟨_, _, rfl, _, rfl, .inr ⟨hr, rfl, by rw [← hd]; exact rest⟩⟩
  · subst hv
    rw [hnone]
    exact ⟨_, rfl, fun _ => ⟨_, rfl, rfl, Grew.refl _⟩, fun h => (by simp at h)⟩

theorem rNext_ok {w : World} {B p : Nat} {a : Option Addr} {n c : Nat} {most next : Int} {L : List (Int × Msg)} (h : RefAt w B p a n c most next L) :
    CallsW Try.prog 15 [.pointer (some ⟨p, 0, none⟩)] w (Rets fun v w' => v = .int .i64 next ∧ w' = w) := by
  refine sx15.ok ?_
  unfold sx15
  exact ⟨next, by rw [h.row.cell]; rfl, _, rfl, rfl, rfl⟩

theorem rFlights_ok {w : World} {B p : Nat} {a : Option Addr} {n c : Nat} {most next : Int} {L : List (Int × Msg)} (h : RefAt w B p a n c most next L) :
    CallsW Try.prog 13 [.pointer (some ⟨p, 0, none⟩)] w (Rets (Flown w (conts L))) := by
  refine sx13.ok ?_
  unfold sx13
  have hm0 := h.m0; have hroom := h.room; have hl := h.own.len
  intro b1 w2 hal
  have ho2 := Own.alloc (E := Enc.flight) (l := []) hal (Nat.le_refl _) rfl (by decide)
  refine ⟨fun a' n' c' i w' => ∃ (k : Nat) (Ls : List (Int × Msg)), i = k ∧ k ≤ L.length ∧ Own w' w.heap.size 55 Enc.flight a' n' c' Ls ∧ conts Ls = (conts L).take k ∧ MsOk w' w.heap.size Ls ∧ Grew w w', fun _ _ _ i _ => L.length - i.toNat, ⟨0, [], rfl, Nat.zero_le _, ho2, rfl, ⟨by simp, by simp, List.Pairwise.nil⟩, hal.grew⟩, ?_⟩
  rintro a11 l11 c11 i w13 ⟨k, Ls, rfl, hk, ho13, hcs, hms, hg13⟩
  have h13 := h.grew hg13
  have hLs : Ls.length = k := by
    have := congrArg List.length hcs
    rw [conts_len, List.length_take, conts_len] at this; omega
  refine ⟨a, n, c, by rw [h13.row.cell]; rfl, fun hlt w8 hg8 => ?_, fun hge => ?_⟩
  · simp only [decide_eq_true_eq] at hlt
    have hg8' := hg13.trans hg8
    have h8 := h.grew hg8'
    obtain ⟨d, x, hd, hx, hc⟩ := h8.own.reads.at0 (k := k) (by omega)
    obtain ⟨c1, c2⟩ := fl_cells hc
    have hxm := List.mem_of_getElem? hx
    have hok := h.msgs.ok _ hxm
    have hsm := soundMsg_small hok.1
    refine ⟨a, n, c, by rw [h8.row.cell]; rfl, ?_⟩
    rw [hd]
    refine ⟨⟨by omega, by omega⟩, _, c1, some d, n, c, by rw [h8.row.cell, ← hd]; rfl, ⟨by omega, by omega⟩, _, _, _, _, _, _, _, _, _, _, _, _, _, _, _, c2, ?_⟩
    refine (rCopied_ok (x := x.2) (h8.msgs.own _ hxm).at (by omega) (by omega) (by omega)).use' fun v w23 ⟨y, hv, hyc, hy, hg23⟩ => ?_
    subst hv
    have lf := World.block_lt_of_cell? w8 _ c1
    have pf := h8.row.lt
    have e1 := hg23.block _ lf
    have e2 := hg23.block _ pf
    refine ⟨_, _, _, _, _, _, _, _, _, _, _, _, _, _, _, rfl, ⟨e1, e2, e1, e2, trivial⟩, fun b35 w36 hal36 => ?_⟩
    have s13 := hg13.size; have s8 := hg8.size; have s23 := hg23.size; have s36 := hal36.grew.size
    refine append_new (l2 := [(x.1, y)]) eFl ((ho13.grew hg8).grew hg23) hal36 (by simp [Enc.flight, Msg.vals]) rfl (by omega) (by simp only [maxLen, List.length_cons, List.length_nil]; omega) (by simp; omega) ?_
    rintro v w37 ⟨a39, l39, c39, rfl, ho37, hu37, -⟩
    have hw : IntKind.i64.wrap ((k : Int) + 1) = ((k + 1 : Nat) : Int) := by rw [IntKind.wrap_i64]; omega
    rw [hw]
    have hown23 := (ho13.grew hg8).grew hg23
    refine ⟨_, _, _, rfl, ⟨k + 1, Ls ++ [(x.1, y)], rfl, by omega, ho37, ?_, ?_, (hg8'.trans hg23).then_own hu37 fun b hb => (hown23.blk hb).1⟩, by show L.length - (((k + 1 : Nat) : Int)).toNat < L.length - ((k : Int)).toNat; omega⟩
    · rw [show conts (Ls ++ [(x.1, y)]) = conts Ls ++ [(x.1, y.c)] from by simp [conts], hcs, take_snoc (x := (x.1, x.2.c)) (by simp [conts, hx]), hyc]
    · have hm := ((hms.grew hg8).grew hg23).snoc (k := x.1) hy (by omega) (fun b hb => by have := (hms.blk hb).2; omega) ⟨by rw [hyc]; exact hok.1, by rw [hyc]; exact hok.2⟩
      refine hm.upd hu37 fun b hb hS => ?_
      obtain ⟨z, hz, hzb⟩ := hb
      exact row_not_own hown23 (hm.own z hz) (by decide) (by decide) (by decide) b hzb hS
  · simp only [decide_eq_false_iff_not] at hge
    rw [List.take_of_length_le (by rw [conts_len]; omega)] at hcs
    exact ⟨_, rfl, a11, l11, c11, Ls, rfl, ho13, hcs, hms, hg13⟩
end Go.Proofs.Ytlkfkcgnlnbdeaa
