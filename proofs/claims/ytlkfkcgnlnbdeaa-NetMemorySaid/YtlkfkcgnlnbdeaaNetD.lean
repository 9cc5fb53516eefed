/- What a net's methods hand back. Conditions: none. -/
import Derived.Test.YtlkfkcgnlnbdeaaProg
import Derived.Test.YtlkfkcgnlnbdeaaNetC
import Derived.Test.YtlkfkcgnlnbdeaaIter_N
namespace Go.Proofs.Ytlkfkcgnlnbdeaa
open Go.Sx
set_option maxRecDepth 100000
set_option linter.unusedVariables false
set_option linter.unusedSimpArgs false
/- reprise/net.New -/
def sx8 (most : Int) (R : Ending → World → Prop) (w : World) : Prop :=
  (((decide (most < 0)) = true → R (.returned (.tuple #[.pointer none, .int .i64 1])) w) ∧ ((decide (most < 0)) = false → (((decide (most > 4096)) = true → R (.returned (.tuple #[.pointer none, .int .i64 1])) w) ∧ ((decide
    (most > 4096)) = false → SemW Try.prog (Instr.makeMap 63 none) (fun u2 w1 => ∃ (m3 : Option Nat), u2 = .map m3 ∧ ∀ (b4 : Nat) (w5 : World), Alloc w1 w5 b4 (.cells [.int .i64 most, .int .i64 0, .map m3].toArray 65) → R
    (.returned (.tuple #[.pointer (some ⟨b4, 0, none⟩), .int .i64 0])) w5) w))))
theorem sx8.ok {most : Int} {R : Ending → World → Prop} {w : World} (h : sx8 most R w) : CallsW Try.prog 8 [.int .i64 most] w R :=
  callsW_of mix Try.func8 (by kernel_rfl) (by kernel_rfl) (Eq.mpr (by kernel_rfl : denFn Try.prog { sem := [11] } Try.f8 [.int .i64 most] R w = sx8 most R w) h)

/- (*reprise/net.Net).put -/
def sx31 (n : Nat) (m_0 : Int) (m_1 : Int) (m_2 : Int) (m_3 : Int) (m_4 : Int) (m_5 : Int) (m_6 : Option Addr) (m_6_n m_6_c : Nat) (m_7 : Option Addr) (m_7_n m_7_c : Nat) (m_8 : Option Addr) (m_8_n m_8_c : Nat) (R : Ending → World → Prop) (w : World) : Prop :=
  ∀ w1, Grew w w1 → ∀ w2, Grew w1 w2 → ∃ (m3 : Option Nat), w2.cell? ⟨n, 2, none⟩ = some (.map m3) ∧ ∃ (n4 : Int), w2.cell? ⟨n, 0, none⟩ = some (.int .i64 n4) ∧ SemW Try.prog (Builtin.len_ #[63] 3 #[.map m3]) (fun u6 w5 =>
    ∃ (n7 : Int), u6 = .int .i64 n7 ∧ SameB w2 w5 [⟨n, 0, none⟩, ⟨n, 2, none⟩] ∧ (((decide (n7 ≥ n4)) = true → R (.returned (.tuple #[.int .i64 0, .int .i64 160])) w5) ∧ ((decide (n7 ≥ n4)) = false → ∃ (n8 : Int),
    w5.cell? ⟨n, 1, none⟩ = some (.int .i64 n8) ∧ ∀ w9, Grew w5 w9 → ∃ (m10 : Option Nat), w9.cell? ⟨n, 2, none⟩ = some (.map m10) ∧ CallsW Try.prog 29 [.agg #[.int .i64 m_0, .int .i64 m_1, .int .i64 m_2, .int .i64 m_3,
    .int .i64 m_4, .int .i64 m_5, .slice m_6 m_6_n m_6_c, .slice m_7 m_7_n m_7_c, .slice m_8 m_8_n m_8_c]] w9 (Ret (fun u12 w11 => ∃ (n13 : Int) (n14 : Int) (n15 : Int) (n16 : Int) (n17 : Int) (n18 : Int) (a19 : Option
    Addr) (l19 c19 : Nat) (a20 : Option Addr) (l20 c20 : Nat) (a21 : Option Addr) (l21 c21 : Nat), u12 = .agg #[.int .i64 n13, .int .i64 n14, .int .i64 n15, .int .i64 n16, .int .i64 n17, .int .i64 n18, .slice a19 l19 c19,
    .slice a20 l20 c20, .slice a21 l21 c21] ∧ SameB w9 w11 [⟨n, 2, none⟩] ∧ SemW Try.prog (Instr.mapUpdate 63 (.map m10) (.int .i64 n8) (.agg #[.int .i64 n13, .int .i64 n14, .int .i64 n15, .int .i64 n16, .int .i64 n17,
    .int .i64 n18, .slice a19 l19 c19, .slice a20 l20 c20, .slice a21 l21 c21])) (fun _ w23 => ∃ (n24 : Int), w23.cell? ⟨n, 1, none⟩ = some (.int .i64 n24) ∧ RoomAt w23 ⟨n, 1, none⟩ 0 [.int .i64 (IntKind.i64.wrap (n24 +
    1))] ∧ ∀ w25, w25 = setCells w23 ⟨n, 1, none⟩ 0 [.int .i64 (IntKind.i64.wrap (n24 + 1))] → R (.returned (.tuple #[.int .i64 n8, .int .i64 0])) w25) w11) (fun c22 w11 => False))))) w2
theorem sx31.ok {n : Nat} {m_0 : Int} {m_1 : Int} {m_2 : Int} {m_3 : Int} {m_4 : Int} {m_5 : Int} {m_6 : Option Addr} {m_6_n m_6_c : Nat} {m_7 : Option Addr} {m_7_n m_7_c : Nat} {m_8 : Option Addr} {m_8_n m_8_c : Nat} {R : Ending → World → Prop} {w : World} (h : sx31 n m_0 m_1 m_2 m_3 m_4 m_5 m_6 m_6_n m_6_c m_7 m_7_n m_7_c m_8 m_8_n m_8_c R w) : CallsW Try.prog 31 [.pointer (some ⟨n, 0, none⟩), .agg #[.int .i64 m_0, .int .i64 m_1, .int .i64 m_2, .int .i64 m_3, .int .i64 m_4, .int .i64 m_5, .slice m_6 m_6_n m_6_c, .slice m_7 m_7_n m_7_c, .slice m_8 m_8_n m_8_c]] w R :=
  callsW_of mix Try.func31 (by kernel_rfl) (by kernel_rfl) (Eq.mpr (by kernel_rfl : denFn Try.prog { locals := [3], sem := [11], draws := [(1, { order := (.cons 0 (.cons 1 (.cons 2 (.cons 3 (.cons 5 (.cons 6 (.cons 7 (.cons 8 (.cons 4 (.cons 9 .nil)))))))))), bars := [] }), (4, { order := (.cons 0 (.cons 1 (.cons 2 (.cons 3 (.cons 4 (.cons 5 (.cons 6 (.cons 7 .nil)))))))), bars := [7] })] } Try.f31 [.pointer (some ⟨n, 0, none⟩), .agg #[.int .i64 m_0, .int .i64 m_1, .int .i64 m_2, .int .i64 m_3, .int .i64 m_4, .int .i64 m_5, .slice m_6 m_6_n m_6_c, .slice m_7 m_7_n m_7_c, .slice m_8 m_8_n m_8_c]] R w = sx31 n m_0 m_1 m_2 m_3 m_4 m_5 m_6 m_6_n m_6_c m_7 m_7_n m_7_c m_8 m_8_n m_8_c R w) h)

/- (*reprise/net.Net).find -/
def sx32 (n : Nat) (k : Int) (R : Ending → World → Prop) (w : World) : Prop :=
  ∀ w1, Grew w w1 → ∃ (m2 : Option Nat), w1.cell? ⟨n, 2, none⟩ = some (.map m2) ∧ SemW Try.prog (Instr.lookup 63 (.map m2) (.int .i64 k) true) (fun u4 w3 => ∃ (n5 : Int) (n6 : Int) (n7 : Int) (n8 : Int) (n9 : Int) (n10 :
    Int) (a11 : Option Addr) (l11 c11 : Nat) (a12 : Option Addr) (l12 c12 : Nat) (a13 : Option Addr) (l13 c13 : Nat) (b14 : Bool), u4 = .tuple #[.agg #[.int .i64 n5, .int .i64 n6, .int .i64 n7, .int .i64 n8, .int .i64 n9,
    .int .i64 n10, .slice a11 l11 c11, .slice a12 l12 c12, .slice a13 l13 c13], .bool b14] ∧ ∀ w15, Grew w3 w15 → (((!b14) = true → R (.returned (.tuple #[.agg #[.int .i64 0, .int .i64 0, .int .i64 0, .int .i64 0, .int
    .i64 0, .int .i64 0, .slice none 0 0, .slice none 0 0, .slice none 0 0], .int .i64 161])) w15) ∧ ((!b14) = false → R (.returned (.tuple #[.agg #[.int .i64 n5, .int .i64 n6, .int .i64 n7, .int .i64 n8, .int .i64 n9,
    .int .i64 n10, .slice a11 l11 c11, .slice a12 l12 c12, .slice a13 l13 c13], .int .i64 0])) w15))) w1
theorem sx32.ok {n : Nat} {k : Int} {R : Ending → World → Prop} {w : World} (h : sx32 n k R w) : CallsW Try.prog 32 [.pointer (some ⟨n, 0, none⟩), .int .i64 k] w R :=
  callsW_of mix Try.func32 (by kernel_rfl) (by kernel_rfl) (Eq.mpr (by kernel_rfl : denFn Try.prog { locals := [4, 6], known := [9], sem := [17] } Try.f32 [.pointer (some ⟨n, 0, none⟩), .int .i64 k] R w = sx32 n k R w) h)

/- (*reprise/net.Net).Send -/
def sx16 (n : Nat) (m_0 : Int) (m_1 : Int) (m_2 : Int) (m_3 : Int) (m_4 : Int) (m_5 : Int) (m_6 : Option Addr) (m_6_n m_6_c : Nat) (m_7 : Option Addr) (m_7_n m_7_c : Nat) (m_8 : Option Addr) (m_8_n m_8_c : Nat) (R : Ending → World → Prop) (w : World) : Prop :=
  ∀ w1, Grew w w1 → CallsW Try.prog 18 [.agg #[.int .i64 m_0, .int .i64 m_1, .int .i64 m_2, .int .i64 m_3, .int .i64 m_4, .int .i64 m_5, .slice m_6 m_6_n m_6_c, .slice m_7 m_7_n m_7_c, .slice m_8 m_8_n m_8_c]] w1 (RetR R
    fun u3 w2 => ∃ (b4 : Bool), u3 = .bool b4 ∧ (((!b4) = true → R (.returned (.tuple #[.int .i64 0, .int .i64 150])) w2) ∧ ((!b4) = false → CallsW Try.prog 31 [.pointer (some ⟨n, 0, none⟩), .agg #[.int .i64 m_0, .int
    .i64 m_1, .int .i64 m_2, .int .i64 m_3, .int .i64 m_4, .int .i64 m_5, .slice m_6 m_6_n m_6_c, .slice m_7 m_7_n m_7_c, .slice m_8 m_8_n m_8_c]] w2 (RetR R fun u7 w6 => ∃ (n8 : Int) (n9 : Int), u7 = .tuple #[.int .i64
    n8, .int .i64 n9] ∧ R (.returned (.tuple #[.int .i64 n8, .int .i64 n9])) w6))))
theorem sx16.ok {n : Nat} {m_0 : Int} {m_1 : Int} {m_2 : Int} {m_3 : Int} {m_4 : Int} {m_5 : Int} {m_6 : Option Addr} {m_6_n m_6_c : Nat} {m_7 : Option Addr} {m_7_n m_7_c : Nat} {m_8 : Option Addr} {m_8_n m_8_c : Nat} {R : Ending → World → Prop} {w : World} (h : sx16 n m_0 m_1 m_2 m_3 m_4 m_5 m_6 m_6_n m_6_c m_7 m_7_n m_7_c m_8 m_8_n m_8_c R w) : CallsW Try.prog 16 [.pointer (some ⟨n, 0, none⟩), .agg #[.int .i64 m_0, .int .i64 m_1, .int .i64 m_2, .int .i64 m_3, .int .i64 m_4, .int .i64 m_5, .slice m_6 m_6_n m_6_c, .slice m_7 m_7_n m_7_c, .slice m_8 m_8_n m_8_c]] w R :=
  callsW_of mix Try.func16 (by kernel_rfl) (by kernel_rfl) (Eq.mpr (by kernel_rfl : denFn Try.prog { locals := [3], known := [8] } Try.f16 [.pointer (some ⟨n, 0, none⟩), .agg #[.int .i64 m_0, .int .i64 m_1, .int .i64 m_2, .int .i64 m_3, .int .i64 m_4, .int .i64 m_5, .slice m_6 m_6_n m_6_c, .slice m_7 m_7_n m_7_c, .slice m_8 m_8_n m_8_c]] R w = sx16 n m_0 m_1 m_2 m_3 m_4 m_5 m_6 m_6_n m_6_c m_7 m_7_n m_7_c m_8 m_8_n m_8_c R w) h)

/- (*reprise/net.Net).Deliver -/
def sx19 (n : Nat) (k : Int) (R : Ending → World → Prop) (w : World) : Prop :=
  ∀ w1, Grew w w1 → CallsW Try.prog 32 [.pointer (some ⟨n, 0, none⟩), .int .i64 k] w1 (RetR R fun u3 w2 => ∃ (n4 : Int) (n5 : Int) (n6 : Int) (n7 : Int) (n8 : Int) (n9 : Int) (a10 : Option Addr) (l10 c10 : Nat) (a11 :
    Option Addr) (l11 c11 : Nat) (a12 : Option Addr) (l12 c12 : Nat) (n13 : Int), u3 = .tuple #[.agg #[.int .i64 n4, .int .i64 n5, .int .i64 n6, .int .i64 n7, .int .i64 n8, .int .i64 n9, .slice a10 l10 c10, .slice a11 l11
    c11, .slice a12 l12 c12], .int .i64 n13] ∧ ∀ w15, Grew w2 w15 → (((n13 == 0) = true → ∃ (m16 : Option Nat), w15.cell? ⟨n, 2, none⟩ = some (.map m16) ∧ SemW Try.prog (Builtin.delete_ #[63, 3] 0 #[.map m16, .int .i64
    k]) (fun u18 w17 => u18 = .tuple #[] ∧ R (.returned (.tuple #[.agg #[.int .i64 n4, .int .i64 n5, .int .i64 n6, .int .i64 n7, .int .i64 n8, .int .i64 n9, .slice a10 l10 c10, .slice a11 l11 c11, .slice a12 l12 c12],
    .int .i64 n13])) w17) w15) ∧ ((n13 == 0) = false → R (.returned (.tuple #[.agg #[.int .i64 n4, .int .i64 n5, .int .i64 n6, .int .i64 n7, .int .i64 n8, .int .i64 n9, .slice a10 l10 c10, .slice a11 l11 c11, .slice a12
    l12 c12], .int .i64 n13])) w15)))
theorem sx19.ok {n : Nat} {k : Int} {R : Ending → World → Prop} {w : World} (h : sx19 n k R w) : CallsW Try.prog 19 [.pointer (some ⟨n, 0, none⟩), .int .i64 k] w R :=
  callsW_of mix Try.func19 (by kernel_rfl) (by kernel_rfl) (Eq.mpr (by kernel_rfl : denFn Try.prog { locals := [4, 6] } Try.f19 [.pointer (some ⟨n, 0, none⟩), .int .i64 k] R w = sx19 n k R w) h)

/- (*reprise/net.Net).Drop -/
def sx20 (n : Nat) (k : Int) (R : Ending → World → Prop) (w : World) : Prop :=
  CallsW Try.prog 19 [.pointer (some ⟨n, 0, none⟩), .int .i64 k] w (RetR R fun u2 w1 => ∃ (n3 : Int) (n4 : Int) (n5 : Int) (n6 : Int) (n7 : Int) (n8 : Int) (a9 : Option Addr) (l9 c9 : Nat) (a10 : Option Addr) (l10 c10 :
    Nat) (a11 : Option Addr) (l11 c11 : Nat) (n12 : Int), u2 = .tuple #[.agg #[.int .i64 n3, .int .i64 n4, .int .i64 n5, .int .i64 n6, .int .i64 n7, .int .i64 n8, .slice a9 l9 c9, .slice a10 l10 c10, .slice a11 l11 c11],
    .int .i64 n12] ∧ ∀ w14, Grew w1 w14 → R (.returned (.int .i64 n12)) w14)
theorem sx20.ok {n : Nat} {k : Int} {R : Ending → World → Prop} {w : World} (h : sx20 n k R w) : CallsW Try.prog 20 [.pointer (some ⟨n, 0, none⟩), .int .i64 k] w R :=
  callsW_of mix Try.func20 (by kernel_rfl) (by kernel_rfl) (Eq.mpr (by kernel_rfl : denFn Try.prog { locals := [5] } Try.f20 [.pointer (some ⟨n, 0, none⟩), .int .i64 k] R w = sx20 n k R w) h)

/- (*reprise/net.Net).Copy -/
def sx17 (n : Nat) (k : Int) (R : Ending → World → Prop) (w : World) : Prop :=
  CallsW Try.prog 32 [.pointer (some ⟨n, 0, none⟩), .int .i64 k] w (RetR R fun u2 w1 => ∃ (n3 : Int) (n4 : Int) (n5 : Int) (n6 : Int) (n7 : Int) (n8 : Int) (a9 : Option Addr) (l9 c9 : Nat) (a10 : Option Addr) (l10 c10 :
    Nat) (a11 : Option Addr) (l11 c11 : Nat) (n12 : Int), u2 = .tuple #[.agg #[.int .i64 n3, .int .i64 n4, .int .i64 n5, .int .i64 n6, .int .i64 n7, .int .i64 n8, .slice a9 l9 c9, .slice a10 l10 c10, .slice a11 l11 c11],
    .int .i64 n12] ∧ ∀ w14, Grew w1 w14 → (((n12 != 0) = true → R (.returned (.tuple #[.int .i64 0, .int .i64 n12])) w14) ∧ ((n12 != 0) = false → CallsW Try.prog 31 [.pointer (some ⟨n, 0, none⟩), .agg #[.int .i64 n3, .int
    .i64 n4, .int .i64 n5, .int .i64 n6, .int .i64 n7, .int .i64 n8, .slice a9 l9 c9, .slice a10 l10 c10, .slice a11 l11 c11]] w14 (RetR R fun u16 w15 => ∃ (n17 : Int) (n18 : Int), u16 = .tuple #[.int .i64 n17, .int .i64
    n18] ∧ R (.returned (.tuple #[.int .i64 n17, .int .i64 n18])) w15))))
theorem sx17.ok {n : Nat} {k : Int} {R : Ending → World → Prop} {w : World} (h : sx17 n k R w) : CallsW Try.prog 17 [.pointer (some ⟨n, 0, none⟩), .int .i64 k] w R :=
  callsW_of mix Try.func17 (by kernel_rfl) (by kernel_rfl) (Eq.mpr (by kernel_rfl : denFn Try.prog { locals := [6] } Try.f17 [.pointer (some ⟨n, 0, none⟩), .int .i64 k] R w = sx17 n k R w) h)

/- (*reprise/net.Net).Next -/
def sx14 (n : Nat) (R : Ending → World → Prop) (w : World) : Prop :=
  ∃ (n1 : Int), w.cell? ⟨n, 1, none⟩ = some (.int .i64 n1) ∧ R (.returned (.int .i64 n1)) w
theorem sx14.ok {n : Nat} {R : Ending → World → Prop} {w : World} (h : sx14 n R w) : CallsW Try.prog 14 [.pointer (some ⟨n, 0, none⟩)] w R :=
  callsW_of mix Try.func14 (by kernel_rfl) (by kernel_rfl) (Eq.mpr (by kernel_rfl : denFn Try.prog { known := [4] } Try.f14 [.pointer (some ⟨n, 0, none⟩)] R w = sx14 n R w) h)

/- (*reprise/net.Net).Flights -/
def sx12 (n : Nat) (R : Ending → World → Prop) (w : World) : Prop :=
  ∃ (m1 : Option Nat), w.cell? ⟨n, 2, none⟩ = some (.map m1) ∧ CallsW Try.prog 28 [.map m1] w (RetR R fun u3 w2 => ∃ (v4 : Value), u3 = v4 ∧ CallsW Try.prog 27 [v4] w2 (RetR R fun u7 w6 => ∃ (a8 : Option Addr) (l8 c8 :
    Nat), u7 = .slice a8 l8 c8 ∧ ∃ (I10 : Option Addr → Nat → Nat → Int → World → Prop) (m10 : Option Addr → Nat → Nat → Int → World → Nat), I10 none 0 0 0 w6 ∧ ∀ (a11 : Option Addr) (l11 c11 : Nat) (n12 : Int) (w13 :
    World), I10 a11 l11 c11 n12 w13 → (((decide (n12 < ((l8 : Nat) : Int))) = true → withSome a8 (fun d14 => (0 ≤ n12 ∧ n12 < (l8 : Nat)) ∧ ∃ (n15 : Int), w13.cell? (Addr.add d14 (n12.toNat * 1)) = some (.int .i64 n15) ∧
    ∃ (m16 : Option Nat), w13.cell? ⟨n, 2, none⟩ = some (.map m16) ∧ SemW Try.prog (Instr.lookup 63 (.map m16) (.int .i64 n15) false) (fun u18 w17 => ∃ (n19 : Int) (n20 : Int) (n21 : Int) (n22 : Int) (n23 : Int) (n24 :
    Int) (a25 : Option Addr) (l25 c25 : Nat) (a26 : Option Addr) (l26 c26 : Nat) (a27 : Option Addr) (l27 c27 : Nat), u18 = .agg #[.int .i64 n19, .int .i64 n20, .int .i64 n21, .int .i64 n22, .int .i64 n23, .int .i64 n24,
    .slice a25 l25 c25, .slice a26 l26 c26, .slice a27 l27 c27] ∧ CallsW Try.prog 29 [.agg #[.int .i64 n19, .int .i64 n20, .int .i64 n21, .int .i64 n22, .int .i64 n23, .int .i64 n24, .slice a25 l25 c25, .slice a26 l26
    c26, .slice a27 l27 c27]] w17 (RetR R fun u29 w28 => ∃ (n30 : Int) (n31 : Int) (n32 : Int) (n33 : Int) (n34 : Int) (n35 : Int) (a36 : Option Addr) (l36 c36 : Nat) (a37 : Option Addr) (l37 c37 : Nat) (a38 : Option
    Addr) (l38 c38 : Nat), u29 = .agg #[.int .i64 n30, .int .i64 n31, .int .i64 n32, .int .i64 n33, .int .i64 n34, .int .i64 n35, .slice a36 l36 c36, .slice a37 l37 c37, .slice a38 l38 c38] ∧ ∀ (b40 : Nat) (w41 : World),
    Alloc w28 w41 b40 (.cells #[.int .i64 n15, .int .i64 n30, .int .i64 n31, .int .i64 n32, .int .i64 n33, .int .i64 n34, .int .i64 n35, .slice a36 l36 c36, .slice a37 l37 c37, .slice a38 l38 c38] 55) → SemW Try.prog
    (Builtin.append_ #[40, 40] 40 #[.slice a11 l11 c11, .slice (some ⟨b40, 0, none⟩) 1 1]) (fun u43 w42 => ∃ (a44 : Option Addr) (l44 c44 : Nat), u43 = .slice a44 l44 c44 ∧ (I10 a44 l44 c44 (IntKind.i64.wrap (n12 + 1))
    w42 ∧ m10 a44 l44 c44 (IntKind.i64.wrap (n12 + 1)) w42 < m10 a11 l11 c11 n12 w13)) w41)) w13)) ∧ ((decide (n12 < ((l8 : Nat) : Int))) = false → R (.returned (.slice a11 l11 c11)) w13))))
theorem sx12.ok {n : Nat} {R : Ending → World → Prop} {w : World} (h : sx12 n R w) : CallsW Try.prog 12 [.pointer (some ⟨n, 0, none⟩)] w R :=
  callsW_of mix Try.func12 (by kernel_rfl) (by kernel_rfl) (Eq.mpr (by kernel_rfl : denFn Try.prog { known := [7], sem := [26, 30], loops := [(5, { slots := [(3, .slice), (15, .int .i64)], cells := [] })] } Try.f12 [.pointer (some ⟨n, 0, none⟩)] R w = sx12 n R w) h)


abbrev MsOk := MsgsOk 3 56 60
structure NetAt (w : World) (B p mb : Nat) (most next : Int) (L : List (Int × Msg)) : Prop where
  row : Row w p 65 [.int .i64 most, .int .i64 next, .map (some mb)]
  map : MapIs w mb .i64 Msg.val L
  msgs : MsOk w B L
  rise : Rise L next
  n0 : 0 ≤ next
  pB : B ≤ p
  mB : B ≤ mb
  m0 : 0 ≤ most ∧ most ≤ 4096
  room : (L.length : Int) ≤ most
def NFoot (p mb : Nat) (L : List (Int × Msg)) (b : Nat) : Prop := b = p ∨ b = mb ∨ Feet L b
theorem NetAt.upd {S : Nat → Prop} {w w' : World} {B p mb : Nat} {most next : Int} {L : List (Int × Msg)} (h : NetAt w B p mb most next L) (hu : Upd S w w') (hn : ∀ b, NFoot p mb L b → ¬ S b) : NetAt w' B p mb most next L :=
  ⟨h.row.upd hu (hn p (.inl rfl)), h.map.upd hu (hn mb (.inr (.inl rfl))), h.msgs.upd hu fun b hb => hn b (.inr (.inr hb)), h.rise, h.n0, h.pB, h.mB, h.m0, h.room⟩
theorem NetAt.grew {w w' : World} {B p mb : Nat} {most next : Int} {L : List (Int × Msg)} (h : NetAt w B p mb most next L) (hg : Grew w w') : NetAt w' B p mb most next L := h.upd (hg.upd (S := fun _ => False)) fun _ _ h => h
theorem NetAt.foot {w : World} {B p mb : Nat} {most next : Int} {L : List (Int × Msg)} (h : NetAt w B p mb most next L) {b : Nat} (hb : NFoot p mb L b) : B ≤ b ∧ b < w.heap.size := by
  rcases hb with rfl | rfl | hb
  · exact ⟨h.pB, h.row.lt⟩
  · exact ⟨h.mB, h.map.lt⟩
  · exact h.msgs.blk hb
theorem NetAt.ne {w : World} {B p mb : Nat} {most next : Int} {L : List (Int × Msg)} (h : NetAt w B p mb most next L) : p ≠ mb := h.row.not_map h.map
theorem NetAt.pfree {w : World} {B p mb : Nat} {most next : Int} {L : List (Int × Msg)} (h : NetAt w B p mb most next L) : ¬ Feet L p := fun ⟨x, hx, hb⟩ => (h.msgs.own x hx).not_row h.row (by decide) (by decide) (by decide) hb
theorem NetAt.mfree {w : World} {B p mb : Nat} {most next : Int} {L : List (Int × Msg)} (h : NetAt w B p mb most next L) : ¬ Feet L mb := fun ⟨x, hx, hb⟩ => (h.msgs.own x hx).not_map h.map hb

theorem zMsg : ∀ w, (zeroValue 35).run Try.prog w = .ok msg0.val w := zero_run (by kernel_rfl)
theorem uMap : Try.prog.underlying 63 = some (.map 3 35) := by kernel_rfl
theorem uInt : Try.prog.underlying 3 = some (.int .i64) := by kernel_rfl

theorem New_ok {most : Int} {w : World} : CallsW Try.prog 8 [.int .i64 most] w (Rets fun v w' => Grew w w' ∧ ((most < 0 ∨ 4096 < most) ∧ v = .tuple #[.pointer none, .int .i64 1] ∨ (0 ≤ most ∧ most ≤ 4096) ∧ ∃ p mb, v = .tuple #[.pointer (some ⟨p, 0, none⟩), .int .i64 0] ∧ NetAt w' w.heap.size p mb most 0 [])) := by
  refine sx8.ok ?_
  unfold sx8
  refine ⟨fun h => ?_, fun h => ⟨fun h2 => ?_, fun h2 => ?_⟩⟩
  all_goals simp only [decide_eq_true_eq, decide_eq_false_iff_not] at *
  · exact ⟨_, rfl, Grew.refl _, .inl ⟨.inl h, rfl⟩⟩
  · exact ⟨_, rfl, Grew.refl _, .inl ⟨.inr h2, rfl⟩⟩
  · refine make_map fun mb w1 hal1 => ⟨_, rfl, fun p w5 hal5 => ⟨_, rfl, hal1.grew.trans hal5.grew, .inr ⟨⟨by omega, by omega⟩, p, mb, rfl, ?_⟩⟩⟩
    exact ⟨hal5.at_, (MapIs.empty hal1).grew hal5.grew, ⟨by simp, by simp, List.Pairwise.nil⟩, ⟨List.Pairwise.nil, by simp⟩, Int.le_refl _, Nat.le_trans hal1.grew.size hal5.new, hal1.new, ⟨by omega, by omega⟩, by simp; omega⟩

/-- what comes of a message put on its way -/
def Put (w : World) (B p mb : Nat) (most next : Int) (L : List (Int × Msg)) (m : MsgV) (v : Value) (w' : World) : Prop :=
  (((L.length : Int) ≥ most ∧ v = .tuple #[.int .i64 0, .int .i64 160] ∧ Grew w w') ∨
   ((L.length : Int) < most ∧ v = .tuple #[.int .i64 next, .int .i64 0] ∧ ∃ y : Msg, y.c = m ∧ (∀ b, y.Blk b → w.heap.size ≤ b) ∧ NetAt w' B p mb most (next + 1) (L ++ [(next, y)]) ∧ Upd (fun b => b = p ∨ b = mb) w w'))

theorem nput_ok {w : World} {B p mb : Nat} {most next : Int} {L : List (Int × Msg)} {x : Msg} (h : NetAt w B p mb most next L) (hx : x.At w) (hs : soundMsg x.c = true) (hf : x.c.Fits) (hn : next < 4611686018427387904) (hB : B ≤ w.heap.size) :
    CallsW Try.prog 31 [.pointer (some ⟨p, 0, none⟩), x.val] w (Rets (Put w B p mb most next L x.c)) := by
  refine sx31.ok ?_
  unfold sx31
  have hsm := soundMsg_small hs
  have hn0 := h.n0
  intro w1 hg1 w2 hg2
  have hg2 := hg1.trans hg2
  have h2 := h.grew hg2
  refine ⟨some mb, by rw [h2.row.cell]; rfl, most, by rw [h2.row.cell]; rfl, map_len uMap h2.map ⟨_, rfl, by simp [SameB], fun hge => ?_, fun hlt => ?_⟩⟩
  · simp only [decide_eq_true_eq] at hge
    exact ⟨_, rfl, .inl ⟨hge, rfl, hg2⟩⟩
  · simp only [decide_eq_false_iff_not] at hlt
    refine ⟨next, by rw [h2.row.cell]; rfl, fun w9 hg9 => ?_⟩
    have h9 := h2.grew hg9
    have hg9' := hg2.trans hg9
    refine ⟨some mb, by rw [h9.row.cell]; rfl, (copied_ok (hx.grew hg9') (by omega) (by omega) (by omega)).use' fun v w11 ⟨y, hv, hyc, hy, hg11⟩ => ?_⟩
    subst hv
    have h11 := h9.grew hg11
    refine ⟨_, _, _, _, _, _, _, _, _, _, _, _, _, _, _, rfl, by simp [SameB, hg11.block p h9.row.lt], ?_⟩
    have hwf : (Lit.int .i64 next).wf = true := by simp [Lit.wf, IntKind.min, IntKind.max, IntKind.signed, IntKind.bits]; omega
    show SemW Try.prog (Instr.mapUpdate 63 (.map (some mb)) (.int .i64 next) (Msg.val y)) _ w11
    refine map_update (F := Msg.val) (x := y) uMap uInt h11.map hwf ?_
    intro w23 hm23 hu23
    have hrow23 := h11.row.upd hu23 h11.ne
    obtain ⟨hroom, hrow25, hu25⟩ := hrow23.set1 (o := 1) (by simp) (.int .i64 (next + 1))
    have hw : IntKind.i64.wrap (next + 1) = next + 1 := by rw [IntKind.wrap_i64]; omega
    refine ⟨next, by rw [hrow23.cell]; rfl, ?_⟩
    rw [hw]
    refine ⟨hroom, ?_⟩
    rintro w25 rfl
    generalize setCells w23 ⟨p, 1, none⟩ 0 [.int .i64 (next + 1)] = w25 at hrow25 hu25 ⊢
    rw [setM_new h.rise.fresh] at hm23
    have hmy : ¬ y.Blk mb := hy.not_map h11.map
    have hpy : ¬ y.Blk p := hy.not_row h11.row (by decide) (by decide) (by decide)
    have s9 := hg9'.size; have s11 := hg11.size
    have hys : ∀ b, y.Blk b → w.heap.size ≤ b := fun b hb => Nat.le_trans s9 (hy.blk hb).1
    have hU : Upd (fun b => b = p ∨ b = mb) w11 w25 := (hu23.mono fun b _ hb => .inr hb).trans (hu25.mono fun b _ hb => .inl hb)
    refine ⟨_, rfl, .inr ⟨by omega, rfl, y, hyc, hys, ⟨hrow25, hm23.upd hu25 (fun e => h.ne e.symm), ?_, h.rise.snoc h.n0 y, by omega, h.pB, h.mB, h.m0, by simp; omega⟩, ((hg9'.trans hg11).upd (S := fun b => b = p ∨ b = mb)).trans hU⟩⟩
    have hm := h11.msgs.snoc (k := next) hy (Nat.le_trans hB s9) (fun b hb => Nat.lt_of_lt_of_le (h.msgs.blk hb).2 s9) ⟨by rw [hyc]; exact hs, by rw [hyc]; exact hf⟩
    refine hm.upd hU fun b hb hS => ?_
    rcases hb.snoc with hb | hb
    · rcases hS with rfl | rfl
      · exact h.pfree hb
      · exact h.mfree hb
    · rcases hS with rfl | rfl
      · exact hpy hb
      · exact hmy hb

theorem find_ok {w : World} {B p mb : Nat} {most next : Int} {L : List (Int × Msg)} {k : Int} (h : NetAt w B p mb most next L) :
    CallsW Try.prog 32 [.pointer (some ⟨p, 0, none⟩), .int .i64 k] w (Rets fun v w' => (match getM L k with | some y => v = .tuple #[y.val, .int .i64 0] | none => v = .tuple #[msg0.val, .int .i64 161]) ∧ Grew w w') := by
  refine sx32.ok ?_
  unfold sx32
  intro w1 hg1
  have h1 := h.grew hg1
  refine ⟨some mb, by rw [h1.row.cell]; rfl, ?_⟩
  refine map_lookup2 (F := Msg.val) (z := msg0.val) uMap uInt zMsg h1.map ?_
  cases hg : getM L k with
  | none => exact ⟨_, _, _, _, _, _, _, _, _, _, _, _, _, _, _, _, rfl, fun w15 hg15 => ⟨fun _ => ⟨_, rfl, rfl, hg1.trans hg15⟩, fun h => (by cases h)⟩⟩
  | some y => exact ⟨_, _, _, _, _, _, _, _, _, _, _, _, _, _, _, _, rfl, fun w15 hg15 => ⟨fun h => (by cases h), fun _ => ⟨_, rfl, rfl, hg1.trans hg15⟩⟩⟩

theorem Send_ok {w : World} {B p mb : Nat} {most next : Int} {L : List (Int × Msg)} {x : Msg} (h : NetAt w B p mb most next L) (hx : x.At w) (hf : x.c.Fits) (h1 : x.c.ends.length ≤ 9223372036854775806) (h2 : x.c.keys.length ≤ 9223372036854775806) (h3 : x.c.pairs.length ≤ 9223372036854775806)
    (hn : next < 4611686018427387904) (hB : B ≤ w.heap.size) :
    CallsW Try.prog 16 [.pointer (some ⟨p, 0, none⟩), x.val] w (Rets fun v w' => (soundMsg x.c = false ∧ v = .tuple #[.int .i64 0, .int .i64 150] ∧ Grew w w') ∨ (soundMsg x.c = true ∧ Put w B p mb most next L x.c v w')) := by
  refine sx16.ok ?_
  unfold sx16
  intro w1 hg1
  refine (MSound_ok (hx.grew hg1) h1 h2 h3).use fun v w2 ⟨hv, hg2⟩ => ?_
  subst hv
  have hg2 := hg1.trans hg2
  refine ⟨_, rfl, fun hs => ?_, fun hs => ?_⟩
  · have hs' : soundMsg x.c = false := by simpa using hs
    exact ⟨_, rfl, .inl ⟨hs', rfl, hg2⟩⟩
  · have hs' : soundMsg x.c = true := by simpa using hs
    refine (nput_ok (h.grew hg2) (hx.grew hg2) hs' hf hn (Nat.le_trans hB hg2.size)).use fun v w6 hp => ?_
    rcases hp with ⟨hr, hv, hg⟩ | ⟨hr, hv, y, hy, hb, hN, hu⟩
    · subst hv; exact ⟨_, _, rfl, _, rfl, .inr ⟨hs', .inl ⟨hr, rfl, hg2.trans hg⟩⟩⟩
    · subst hv; exact ⟨_, _, rfl, _, rfl, .inr ⟨hs', .inr ⟨hr, rfl, y, hy, fun b h' => Nat.le_trans hg2.size (hb b h'), hN, (hg2.upd (S := fun b => b = p ∨ b = mb)).trans hu⟩⟩⟩

/-- what comes of a delivery -/
def Got (w : World) (B p mb : Nat) (most next : Int) (L : List (Int × Msg)) (k : Int) (x : Msg) (e : Int) (w' : World) : Prop :=
  match getM L k with
  | none => x = msg0 ∧ e = 161 ∧ Grew w w'
  | some y => x = y ∧ e = 0 ∧ NetAt w' B p mb most next (delM L k) ∧ MO w' B y ∧ (soundMsg y.c = true ∧ y.c.Fits) ∧ (∀ b, y.Blk b → Feet L b ∧ ¬ NFoot p mb (delM L k) b) ∧ Upd (fun b => b = mb) w w'

theorem Deliver_ok {w : World} {B p mb : Nat} {most next : Int} {L : List (Int × Msg)} {k : Int} (h : NetAt w B p mb most next L) :
    CallsW Try.prog 19 [.pointer (some ⟨p, 0, none⟩), .int .i64 k] w (Rets fun v w' => ∃ x e, v = .tuple #[Msg.val x, .int .i64 e] ∧ Got w B p mb most next L k x e w') := by
  refine sx19.ok ?_
  unfold sx19
  intro w1 hg1
  refine (find_ok (k := k) (h.grew hg1)).use fun v w2 ⟨hv, hg2⟩ => ?_
  have hg2 := hg1.trans hg2
  unfold Got
  cases hg : getM L k with
  | none =>
    rw [hg] at hv
    simp only at hv
    subst hv
    refine ⟨_, _, _, _, _, _, _, _, _, _, _, _, _, _, _, _, rfl, fun w15 hg15 => ⟨fun h => (by simp at h), fun _ => ⟨_, rfl, msg0, 161, rfl, rfl, rfl, hg2.trans hg15⟩⟩⟩
  | some y =>
    rw [hg] at hv
    simp only at hv
    subst hv
    refine ⟨_, _, _, _, _, _, _, _, _, _, _, _, _, _, _, _, rfl, fun w15 hg15 => ⟨fun _ => ?_, fun h => (by simp at h)⟩⟩
    have hg15' := hg2.trans hg15
    have h15 := h.grew hg15'
    have hm := getM_mem hg
    refine ⟨some mb, by rw [h15.row.cell]; rfl, map_delete uMap uInt h15.map ?_⟩
    intro w17 hm17 hu17
    have hs := delM_sub L k
    have hdel := fun b hb => Feet.del (b := b) h.msgs.apart hm hb
    refine ⟨rfl, _, rfl, y, 0, rfl, rfl, rfl, ⟨h15.row.upd hu17 h15.ne, hm17, (h15.msgs.sub hs).upd hu17 (fun b hb e => h15.mfree (Feet.sub hs (e ▸ hb))), h.rise.sub hs, h.n0, h.pB, h.mB, h.m0, ?_⟩, (h15.msgs.own _ hm).upd hu17 (fun b hb e => h15.mfree ⟨_, hm, e ▸ hb⟩), h.msgs.ok _ hm, fun b hb => ⟨(hdel b hb).1, ?_⟩, (hg15'.upd (S := fun b => b = mb)).trans hu17⟩
    · have := hs.length_le; have := h.room; omega
    · rintro (rfl | rfl | hf)
      · exact h.pfree ⟨_, hm, hb⟩
      · exact h.mfree ⟨_, hm, hb⟩
      · exact (hdel b hb).2 hf

theorem Drop_ok {w : World} {B p mb : Nat} {most next : Int} {L : List (Int × Msg)} {k : Int} (h : NetAt w B p mb most next L) :
    CallsW Try.prog 20 [.pointer (some ⟨p, 0, none⟩), .int .i64 k] w (Rets fun v w' => ∃ x e, v = .int .i64 e ∧ Got w B p mb most next L k x e w') := by
  refine sx20.ok ?_
  unfold sx20
  refine (Deliver_ok (k := k) h).use fun v w1 ⟨x, e, hv, hG⟩ => ?_
  subst hv
  refine ⟨_, _, _, _, _, _, _, _, _, _, _, _, _, _, _, _, rfl, fun w14 hg14 => ⟨_, rfl, x, e, rfl, ?_⟩⟩
  unfold Got at hG ⊢
  cases hg : getM L k with
  | none => rw [hg] at hG; exact ⟨hG.1, hG.2.1, hG.2.2.trans hg14⟩
  | some y =>
    rw [hg] at hG
    obtain ⟨h1, h2, h3, h4, h5, h6, h7⟩ := hG
    exact ⟨h1, h2, h3.grew hg14, h4.grew hg14, h5, h6, h7.trans (hg14.upd)⟩

theorem Copy_ok {w : World} {B p mb : Nat} {most next : Int} {L : List (Int × Msg)} {k : Int} (h : NetAt w B p mb most next L) (hn : next < 4611686018427387904) (hB : B ≤ w.heap.size) :
    CallsW Try.prog 17 [.pointer (some ⟨p, 0, none⟩), .int .i64 k] w (Rets fun v w' => match getM L k with | none => v = .tuple #[.int .i64 0, .int .i64 161] ∧ Grew w w' | some y => Put w B p mb most next L y.c v w') := by
  refine sx17.ok ?_
  unfold sx17
  refine (find_ok (k := k) h).use fun v w1 ⟨hv, hg1⟩ => ?_
  cases hg : getM L k with
  | none =>
    rw [hg] at hv
    simp only at hv
    subst hv
    exact ⟨_, _, _, _, _, _, _, _, _, _, _, _, _, _, _, _, rfl, fun w14 hg14 => ⟨fun _ => ⟨_, rfl, rfl, hg1.trans hg14⟩, fun h => (by simp at h)⟩⟩
  | some y =>
    rw [hg] at hv
    simp only at hv
    subst hv
    refine ⟨_, _, _, _, _, _, _, _, _, _, _, _, _, _, _, _, rfl, fun w14 hg14 => ⟨fun h => (by simp at h), fun _ => ?_⟩⟩
    have hg14' := hg1.trans hg14
    have h14 := h.grew hg14'
    have hm := getM_mem hg
    refine (nput_ok (x := y) h14 (h14.msgs.own _ hm).at (h.msgs.ok _ hm).1 (h.msgs.ok _ hm).2 hn (Nat.le_trans hB hg14'.size)).use fun v w15 hp => ?_
    rcases hp with ⟨hr, hv, hg⟩ | ⟨hr, hv, z, hz, hb, hN, hu⟩
    · subst hv; exact ⟨_, _, rfl, _, rfl, .inl ⟨hr, rfl, hg14'.trans hg⟩⟩
    · subst hv; exact ⟨_, _, rfl, _, rfl, .inr ⟨hr, rfl, z, hz, fun b h' => Nat.le_trans hg14'.size (hb b h'), hN, (hg14'.upd (S := fun b => b = p ∨ b = mb)).trans hu⟩⟩

theorem Next_ok {w : World} {B p mb : Nat} {most next : Int} {L : List (Int × Msg)} (h : NetAt w B p mb most next L) :
    CallsW Try.prog 14 [.pointer (some ⟨p, 0, none⟩)] w (Rets fun v w' => v = .int .i64 next ∧ w' = w) := by
  refine sx14.ok ?_
  unfold sx14
  exact ⟨next, by rw [h.row.cell]; rfl, _, rfl, rfl, rfl⟩

/-- flights in new memory -/
def Flown (w : World) (C : List (Int × MsgV)) (v : Value) (w' : World) : Prop := ∃ (a : Option Addr) (n c : Nat) (Ls : List (Int × Msg)), v = .slice a n c ∧ Own w' w.heap.size 55 Enc.flight a n c Ls ∧ conts Ls = C ∧ MsOk w' w.heap.size Ls ∧ Grew w w'
theorem eFl : ElemOk Try.prog 40 55 Enc.flight.sz 128 := ElemOk.mk' (z := .agg (.int .i64 0 :: msg0.vals).toArray) (by kernel_rfl) (by kernel_rfl) (by kernel_rfl)
theorem row_not_own {α : Type} {w : World} {B B2 : Nat} {e : TypeId} {E : Enc α} {a : Option Addr} {n c : Nat} {l : List α} (h : Own w B e E a n c l) {x : Msg} (hx : MO w B2 x) (h1 : e ≠ 3) (h2 : e ≠ 56) (h3 : e ≠ 60) : ∀ b, x.Blk b → ¬ Blk a b := by
  intro b hb hb'
  obtain ⟨cur, hc⟩ := h.obj hb'
  obtain ⟨cur', t, ht, hc'⟩ := hx.obj hb
  rw [hc] at hc'
  have := (Obj.cells.inj (Option.some.inj hc')).2.1
  rcases ht with rfl | rfl | rfl
  · exact h1 this
  · exact h2 this
  · exact h3 this

theorem NFlights_ok {w : World} {B p mb : Nat} {most next : Int} {L : List (Int × Msg)} (h : NetAt w B p mb most next L) :
    CallsW Try.prog 12 [.pointer (some ⟨p, 0, none⟩)] w (Rets (Flown w (conts L))) := by
  refine sx12.ok ?_
  unfold sx12
  have hm0 := h.m0; have hroom := h.room
  refine ⟨some mb, by rw [h.row.cell]; rfl, Keys_N_ok.use fun v w2 ⟨g, hv, hal⟩ => ?_⟩
  subst hv
  have h2 := h.grew hal.grew
  have hc2 : w2.cell? ⟨g, 0, none⟩ = some (.map (some mb)) := by rw [cell_row hal.at_]; rfl
  refine ⟨_, rfl, (Sorted_N_ok hc2 h2.map (by omega)).use fun v w6 ⟨a8, l8, c8, hv, ho6, hg6⟩ => ?_⟩
  subst hv
  rw [h.rise.sorted] at ho6
  have hg6' := hal.grew.trans hg6
  have hl8 := ho6.len
  rw [List.length_map] at hl8
  refine ⟨_, _, _, rfl, fun a' n' c' i w' => ∃ (k : Nat) (Ls : List (Int × Msg)), i = k ∧ k ≤ L.length ∧ Own w' w6.heap.size 55 Enc.flight a' n' c' Ls ∧ conts Ls = (conts L).take k ∧ MsOk w' w.heap.size Ls ∧ Grew w6 w', fun _ _ _ i _ => L.length - i.toNat, ⟨0, [], rfl, Nat.zero_le _, Own.nil _ _ _ _, rfl, ⟨by simp, by simp, List.Pairwise.nil⟩, Grew.refl _⟩, ?_⟩
  rintro a11 l11 c11 i w13 ⟨k, Ls, rfl, hk, ho13, hcs, hms, hg13⟩
  have hg13' := hg6'.trans hg13
  have hLs : Ls.length = k := by
    have := congrArg List.length hcs
    rw [conts_len, List.length_take, conts_len] at this; omega
  refine ⟨fun hlt => ?_, fun hge => ?_⟩
  · simp only [decide_eq_true_eq] at hlt
    obtain ⟨d, key, hd, hkey, hck⟩ := (ho6.reads.grew hg13).at0 (k := k) (by omega)
    have hck' : w13.cell? (Addr.add d (((k : Nat) : Int).toNat * 1)) = some (.int .i64 key) := by simpa [Enc.int, CellsAt, Addr.add_zero'] using hck
    obtain ⟨x, hx⟩ : ∃ x, L[k]? = some x := ⟨_, List.getElem?_eq_getElem (by omega)⟩
    have hxk : x.1 = key := by rw [List.getElem?_map, hx] at hkey; simpa using hkey
    have hget := h.rise.get hx
    rw [hxk] at hget
    have hxm := List.mem_of_getElem? hx
    have h13 := h.grew hg13'
    rw [hd]
    refine ⟨⟨by omega, by omega⟩, key, hck', some mb, by rw [h13.row.cell]; rfl, ?_⟩
    refine map_lookup (F := Msg.val) (z := msg0.val) uMap uInt zMsg h13.map ?_
    rw [hget]
    refine ⟨_, _, _, _, _, _, _, _, _, _, _, _, _, _, _, rfl, ?_⟩
    have hsm := soundMsg_small (h.msgs.ok _ hxm).1
    refine (copied_ok (x := x.2) (h13.msgs.own _ hxm).at (by omega) (by omega) (by omega)).use fun v w28 ⟨y, hv, hyc, hy, hg28⟩ => ?_
    subst hv
    refine ⟨_, _, _, _, _, _, _, _, _, _, _, _, _, _, _, rfl, fun b40 w41 hal41 => ?_⟩
    have hg41 := hg28.trans hal41.grew
    have s13 := hg13'.size; have s41 := hg41.size; have s28 := hg28.size
    have s6 := hg13.size
    refine append_new (l2 := [(key, y)]) eFl (ho13.grew hg28) hal41 rfl rfl (by omega) (by simp only [maxLen, List.length_cons, List.length_nil]; omega) (by simp; omega) ?_
    rintro v w42 ⟨a44, l44, c44, rfl, ho42, hu42, -⟩
    have hw : IntKind.i64.wrap ((k : Int) + 1) = ((k + 1 : Nat) : Int) := by rw [IntKind.wrap_i64]; omega
    rw [hw]
    refine ⟨_, _, _, rfl, ⟨k + 1, Ls ++ [(key, y)], rfl, by omega, ho42, ?_, ?_, ?_⟩, by show L.length - (((k + 1 : Nat) : Int)).toNat < L.length - ((k : Int)).toNat; omega⟩
    · rw [show conts (Ls ++ [(key, y)]) = conts Ls ++ [(key, y.c)] from by simp [conts], hcs, take_snoc (x := (key, x.2.c)) (by simp [conts, hx, hxk]), hyc]
    · have hm := (hms.grew hg28).snoc (k := key) hy s13 (fun b hb => (hms.blk hb).2) ⟨by rw [hyc]; exact (h.msgs.ok _ hxm).1, by rw [hyc]; exact (h.msgs.ok _ hxm).2⟩
      refine hm.upd hu42 fun b hb hS => ?_
      obtain ⟨z, hz, hzb⟩ := hb
      exact row_not_own (ho13.grew hg28) (hm.own z hz) (by decide) (by decide) (by decide) b hzb hS
    · exact (hg13.trans hg28).then_own hu42 fun b hb => (ho13.blk hb).1
  · simp only [decide_eq_false_iff_not] at hge
    rw [List.take_of_length_le (by rw [conts_len]; omega)] at hcs
    exact ⟨_, rfl, a11, l11, c11, Ls, rfl, ho13.base hg6'.size, hcs, hms, hg13'⟩
end Go.Proofs.Ytlkfkcgnlnbdeaa
