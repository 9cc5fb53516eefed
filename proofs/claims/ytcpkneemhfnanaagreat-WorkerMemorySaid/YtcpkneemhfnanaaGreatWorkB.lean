/- What a worker hands back to a message. Conditions: none. -/
import Derived.Test.YtcpkneemhfnanaaGreatProg
import Derived.Test.YtcpkneemhfnanaaGreatWorkA
import Derived.Test.YtcpkneemhfnanaaGreatFoldT
import Derived.Test.YtcpkneemhfnanaaGreatSxWq
namespace Go.Proofs.YtcpkneemhfnanaaGreat
open Go.Sx
set_option maxRecDepth 100000
set_option linter.unusedVariables false
set_option linter.unusedSimpArgs false
/- slices.Clone[[]reprise/api.Pair,reprise/api.Pair] -/
def sx93 (s : Option Addr) (s_n s_c : Nat) (R : Ending → World → Prop) (w : World) : Prop :=
  (((Option.isNone s) = true → R (.returned (.slice none 0 0)) w) ∧ ((Option.isNone s) = false → ∀ (b1 : Nat) (w2 : World), Alloc w w2 b1 (.cells #[] 83) → SemW Tryz.prog (Builtin.append_ #[46, 46] 46 #[.slice (some ⟨b1, 0,
    none⟩) 0 0, .slice s s_n s_c]) (fun u4 w3 => ∃ (a5 : Option Addr) (l5 c5 : Nat), u4 = .slice a5 l5 c5 ∧ R (.returned (.slice a5 l5 c5)) w3) w2))
theorem sx93.ok {s : Option Addr} {s_n s_c : Nat} {R : Ending → World → Prop} {w : World} (h : sx93 s s_n s_c R w) : CallsW Tryz.prog 93 [.slice s s_n s_c] w R :=
  callsW_of mix Tryz.func93 (by kernel_rfl) (by kernel_rfl) (Eq.mpr (by kernel_rfl : denFn Tryz.prog { sem := [7] } Tryz.f93 [.slice s s_n s_c] R w = sx93 s s_n s_c R w) h)

/- slices.Equal[[]int,int] -/
def sx92 (s1 : Option Addr) (s1_n s1_c : Nat) (s2 : Option Addr) (s2_n s2_c : Nat) (R : Ending → World → Prop) (w : World) : Prop :=
  (((((s1_n : Nat) : Int) != ((s2_n : Nat) : Int)) = true → R (.returned (.bool false)) w) ∧ ((((s1_n : Nat) : Int) != ((s2_n : Nat) : Int)) = false → ∃ (I1 : Int → World → Prop) (m1 : Int → World → Nat), I1 0 w ∧ ∀ (n2 :
    Int) (w3 : World), I1 n2 w3 → (((decide (n2 < ((s1_n : Nat) : Int))) = true → withSome s1 (fun d4 => (0 ≤ n2 ∧ n2 < (s1_n : Nat)) ∧ ∃ (n5 : Int), w3.cell? (Addr.add d4 (n2.toNat * 1)) = some (.int .i64 n5) ∧ withSome
    s2 (fun d6 => (0 ≤ n2 ∧ n2 < (s2_n : Nat)) ∧ ∃ (n7 : Int), w3.cell? (Addr.add d6 (n2.toNat * 1)) = some (.int .i64 n7) ∧ ∀ w8, Grew w3 w8 → (((n5 != n7) = true → R (.returned (.bool false)) w8) ∧ ((n5 != n7) = false →
    (I1 (IntKind.i64.wrap (n2 + 1)) w8 ∧ m1 (IntKind.i64.wrap (n2 + 1)) w8 < m1 n2 w3)))))) ∧ ((decide (n2 < ((s1_n : Nat) : Int))) = false → R (.returned (.bool true)) w3))))
theorem sx92.ok {s1 : Option Addr} {s1_n s1_c : Nat} {s2 : Option Addr} {s2_n s2_c : Nat} {R : Ending → World → Prop} {w : World} (h : sx92 s1 s1_n s1_c s2 s2_n s2_c R w) : CallsW Tryz.prog 92 [.slice s1 s1_n s1_c, .slice s2 s2_n s2_c] w R :=
  callsW_of mix Tryz.func92 (by kernel_rfl) (by kernel_rfl) (Eq.mpr (by kernel_rfl : denFn Tryz.prog { loops := [(4, { slots := [(13, .int .i64)], cells := [] })] } Tryz.f92 [.slice s1 s1_n s1_c, .slice s2 s2_n s2_c] R w = sx92 s1 s1_n s1_c s2 s2_n s2_c R w) h)

/- (*reprise/worker.Worker).assign -/
def sx45 (d : Nat) (i : Nat) (p2_0 : Int) (p2_1 : Int) (p2_2 : Int) (p2_3 : Int) (p2_4 : Int) (p2_5 : Int) (p2_6 : Option Addr) (p2_6_n p2_6_c : Nat) (p2_7 : Option Addr) (p2_7_n p2_7_c : Nat) (p2_8 : Option Addr) (p2_8_n p2_8_c : Nat) (R : Ending → World → Prop) (w : World) : Prop :=
  ∀ w1, Grew w w1 → ∃ (J2 : World → Prop), (∀ w3, Grew w1 w3 → ∃ (m4 : Option Nat), w3.cell? ⟨d, 9, none⟩ = some (.map m4) ∧ SemW Tryz.prog (Instr.lookup 102 (.map m4) (.int .i64 p2_3) false) (fun u6 w5 => ∃ (p7 : Option
    Addr), u6 = .pointer p7 ∧ (((!(Option.isNone p7)) = true → withSome p7 (fun d8 => ∃ (n9 : Int), w5.cell? d8 = some (.int .i64 n9) ∧ ∀ w10, Grew w5 w10 → (((decide (n9 ≥ p2_4)) = true → R (.returned (.slice none 0 0))
    w10) ∧ ((decide (n9 ≥ p2_4)) = false → J2 w10)))) ∧ ((!(Option.isNone p7)) = false → ∀ w11, Grew w5 w11 → J2 w11))) w3) ∧ ∀  (w12 : World), J2 w12 → ∀ w13, Grew w12 w13 → ∃ (n14 : Int), w13.cell? ⟨d, 5, none⟩ = some
    (.int .i64 n14) ∧ CallsW Tryz.prog 34 [.pointer (some ⟨i, 0, none⟩), .slice p2_6 p2_6_n p2_6_c, .int .i64 n14] w13 (RetR R fun u16 w15 => ∃ (a17 : Option Addr) (l17 c17 : Nat) (a18 : Option Addr) (l18 c18 : Nat) (n19 :
    Int), u16 = .tuple #[.slice a17 l17 c17, .slice a18 l18 c18, .int .i64 n19] ∧ (((n19 != 0) = true → R (.returned (.slice none 0 0)) w15) ∧ ((n19 != 0) = false → ∀ w21, Grew w15 w21 → ∃ (a22 : Option Addr) (l22 c22 :
    Nat), w21.cell? ⟨d, 3, none⟩ = some (.slice a22 l22 c22) ∧ ∃ (n23 : Int), w21.cell? ⟨d, 4, none⟩ = some (.int .i64 n23) ∧ CallsW Tryz.prog 33 [.slice a22 l22 c22, .int .i64 n23, .slice a18 l18 c18] w21 (RetR R fun u25
    w24 => ∃ (a26 : Option Addr) (l26 c26 : Nat) (n27 : Int) (n28 : Int), u25 = .tuple #[.slice a26 l26 c26, .int .i64 n27, .int .i64 n28] ∧ (((n28 != 0) = true → R (.returned (.slice none 0 0)) w24) ∧ ((n28 != 0) = false
    → SemW Tryz.prog (Instr.makeMap 137 none) (fun u31 w30 => ∃ (m32 : Option Nat), u31 = .map m32 ∧ SemW Tryz.prog (Instr.makeMap 138 none) (fun u34 w33 => ∃ (m35 : Option Nat), u34 = .map m35 ∧ ∀ (b36 : Nat) (w37 :
    World), Alloc w33 w37 b36 (.cells [.int .i64 p2_4, .slice a17 l17 c17, .map m32, .bool false, .map m35].toArray 140) → ∃ (n38 : Int) (n39 : Int) (n40 : Int) (a41 : Option Addr) (l41 c41 : Nat) (n42 : Int) (n43 : Int)
    (n44 : Int) (n45 : Int), CellsAt w37 ⟨d, 0, none⟩ 0 [.int .i64 n38, .int .i64 n39, .int .i64 n40, .slice a41 l41 c41, .int .i64 n42, .int .i64 n43, .int .i64 n44, .int .i64 n45] ∧ CallsW Tryz.prog 88 [.agg #[.int .i64
    n38, .int .i64 n39, .int .i64 n40, .slice a41 l41 c41, .int .i64 n42, .int .i64 n43, .int .i64 n44, .int .i64 n45], .slice a26 l26 c26] w37 (RetR R fun u47 w46 => ∃ (a48 : Option Addr) (l48 c48 : Nat), u47 = .slice
    a48 l48 c48 ∧ ∃ (I50 : Int → World → Prop) (m50 : Int → World → Nat), I50 0 w46 ∧ ∀ (n51 : Int) (w52 : World), I50 n51 w52 → (((decide (n51 < ((l48 : Nat) : Int))) = true → withSome a48 (fun d53 => (0 ≤ n51 ∧ n51 <
    (l48 : Nat)) ∧ ∃ (a54 : Option Addr) (l54 c54 : Nat), w52.cell? (Addr.add d53 (n51.toNat * 1)) = some (.slice a54 l54 c54) ∧ ∀ w55, Grew w52 w55 → ∃ (m56 : Option Nat), w55.cell? ⟨b36, 2, none⟩ = some (.map m56) ∧
    CallsW Tryz.prog 89 [.pointer (some ⟨d, 0, none⟩)] w55 (RetR R fun u58 w57 => ∃ (a59 : Option Addr) (l59 c59 : Nat), u58 = .slice a59 l59 c59 ∧ SameB w55 w57 [⟨b36, 2, none⟩] ∧ withSome a59 (fun d61 => (0 ≤ n51 ∧ n51 <
    (l59 : Nat)) ∧ ∃ (n62 : Int), w57.cell? (Addr.add d61 (n51.toNat * 1)) = some (.int .i64 n62) ∧ SemW Tryz.prog (Instr.mapUpdate 137 (.map m56) (.int .i64 n62) (.slice a54 l54 c54)) (fun _ w63 => (I50 (IntKind.i64.wrap
    (n51 + 1)) w63 ∧ m50 (IntKind.i64.wrap (n51 + 1)) w63 < m50 n51 w52)) w57)))) ∧ ((decide (n51 < ((l48 : Nat) : Int))) = false → ∀ w64, Grew w52 w64 → ∃ (m65 : Option Nat), w64.cell? ⟨d, 9, none⟩ = some (.map m65) ∧
    SemW Tryz.prog (Instr.mapUpdate 102 (.map m65) (.int .i64 p2_3) (.pointer (some ⟨b36, 0, none⟩))) (fun _ w66 => CallsW Tryz.prog 90 [.pointer (some ⟨d, 0, none⟩), .agg #[.int .i64 p2_0, .int .i64 p2_1, .int .i64 p2_2,
    .int .i64 p2_3, .int .i64 p2_4, .int .i64 p2_5, .slice p2_6 p2_6_n p2_6_c, .slice p2_7 p2_7_n p2_7_c, .slice p2_8 p2_8_n p2_8_c], .int .i64 2, .int .i64 0] w66 (RetR R fun u68 w67 => ∃ (n69 : Int) (n70 : Int) (n71 :
    Int) (n72 : Int) (n73 : Int) (n74 : Int) (a75 : Option Addr) (l75 c75 : Nat) (a76 : Option Addr) (l76 c76 : Nat) (a77 : Option Addr) (l77 c77 : Nat), u68 = .agg #[.int .i64 n69, .int .i64 n70, .int .i64 n71, .int .i64
    n72, .int .i64 n73, .int .i64 n74, .slice a75 l75 c75, .slice a76 l76 c76, .slice a77 l77 c77] ∧ ∀ w79, Grew w67 w79 → CallsW Tryz.prog 60 [.slice a17 l17 c17] w79 (RetR R fun u81 w80 => ∃ (a82 : Option Addr) (l82 c82
    : Nat), u81 = .slice a82 l82 c82 ∧ ∀ (b84 : Nat) (w85 : World), Alloc w80 w85 b84 (.cells #[.int .i64 n69, .int .i64 n70, .int .i64 n71, .int .i64 n72, .int .i64 n73, .int .i64 n74, .slice a82 l82 c82, .slice a76 l76
    c76, .slice a77 l77 c77] 48) → R (.returned (.slice (some ⟨b84, 0, none⟩) 1 1)) w85))) w64)))) w30) w24))))))
theorem sx45.ok {d : Nat} {i : Nat} {p2_0 : Int} {p2_1 : Int} {p2_2 : Int} {p2_3 : Int} {p2_4 : Int} {p2_5 : Int} {p2_6 : Option Addr} {p2_6_n p2_6_c : Nat} {p2_7 : Option Addr} {p2_7_n p2_7_c : Nat} {p2_8 : Option Addr} {p2_8_n p2_8_c : Nat} {R : Ending → World → Prop} {w : World} (h : sx45 d i p2_0 p2_1 p2_2 p2_3 p2_4 p2_5 p2_6 p2_6_n p2_6_c p2_7 p2_7_n p2_7_c p2_8 p2_8_n p2_8_c R w) : CallsW Tryz.prog 45 [.pointer (some ⟨d, 0, none⟩), .pointer (some ⟨i, 0, none⟩), .agg #[.int .i64 p2_0, .int .i64 p2_1, .int .i64 p2_2, .int .i64 p2_3, .int .i64 p2_4, .int .i64 p2_5, .slice p2_6 p2_6_n p2_6_c, .slice p2_7 p2_7_n p2_7_c, .slice p2_8 p2_8_n p2_8_c]] w R :=
  callsW_of mix Tryz.func45 (by kernel_rfl) (by kernel_rfl) (Eq.mpr (by kernel_rfl : denFn Tryz.prog { locals := [5, 16], sem := [23, 71, 72], draws := [(1, { order := (.cons 0 (.cons 1 (.cons 2 (.cons 3 (.cons 4 (.cons 5 (.cons 6 (.cons 7 .nil)))))))), bars := [6] }), (4, { order := (.cons 0 (.cons 1 (.cons 2 (.cons 3 (.cons 4 (.cons 5 (.cons 6 (.cons 7 (.cons 8 (.cons 9 (.cons 10 (.cons 11 (.cons 12 (.cons 13 (.cons 14 (.cons 15 .nil)))))))))))))))), bars := [8] }), (7, { order := (.cons 0 (.cons 1 (.cons 2 (.cons 3 (.cons 4 (.cons 5 (.cons 6 (.cons 7 (.cons 8 (.cons 9 (.cons 10 (.cons 11 (.cons 12 (.cons 13 (.cons 14 (.cons 15 (.cons 16 (.cons 17 (.cons 18 .nil))))))))))))))))))), bars := [11] }), (14, { order := (.cons 0 (.cons 1 (.cons 2 (.cons 3 (.cons 4 (.cons 6 (.cons 9 (.cons 5 (.cons 7 (.cons 8 (.cons 10 .nil))))))))))), bars := [10] }), (16, { order := (.cons 0 (.cons 1 (.cons 2 (.cons 3 (.cons 4 (.cons 5 (.cons 6 (.cons 7 .nil)))))))), bars := [7] })], loops := [(12, { slots := [(82, .int .i64)], cells := [] })], cuts := [(4, { slots := [], cells := [] })] } Tryz.f45 [.pointer (some ⟨d, 0, none⟩), .pointer (some ⟨i, 0, none⟩), .agg #[.int .i64 p2_0, .int .i64 p2_1, .int .i64 p2_2, .int .i64 p2_3, .int .i64 p2_4, .int .i64 p2_5, .slice p2_6 p2_6_n p2_6_c, .slice p2_7 p2_7_n p2_7_c, .slice p2_8 p2_8_n p2_8_c]] R w = sx45 d i p2_0 p2_1 p2_2 p2_3 p2_4 p2_5 p2_6 p2_6_n p2_6_c p2_7 p2_7_n p2_7_c p2_8 p2_8_n p2_8_c R w) h)

/- (*reprise/worker.Worker).begin -/
def sx46 (w0 : Nat) (m_0 : Int) (m_1 : Int) (m_2 : Int) (m_3 : Int) (m_4 : Int) (m_5 : Int) (m_6 : Option Addr) (m_6_n m_6_c : Nat) (m_7 : Option Addr) (m_7_n m_7_c : Nat) (m_8 : Option Addr) (m_8_n m_8_c : Nat) (R : Ending → World → Prop) (w : World) : Prop :=
  ∀ w1, Grew w w1 → CallsW Tryz.prog 91 [.pointer (some ⟨w0, 0, none⟩), .agg #[.int .i64 m_0, .int .i64 m_1, .int .i64 m_2, .int .i64 m_3, .int .i64 m_4, .int .i64 m_5, .slice m_6 m_6_n m_6_c, .slice m_7 m_7_n m_7_c, .slice
    m_8 m_8_n m_8_c]] w1 (RetR R fun u3 w2 => ∃ (p4 : Option Addr), u3 = .pointer p4 ∧ ∀ w6, Grew w2 w6 → (((Option.isNone p4) = true → R (.returned (.slice none 0 0)) w6) ∧ ((Option.isNone p4) = false → withSome p4 (fun
    d7 => ∃ (b8 : Bool), w6.cell? (Addr.add d7 3) = some (.bool b8) ∧ ((b8 = true → R (.returned (.slice none 0 0)) w6) ∧ (b8 = false → withSome p4 (fun d9 => ∃ (a10 : Option Addr) (l10 c10 : Nat), w6.cell? (Addr.add d9
    1) = some (.slice a10 l10 c10) ∧ CallsW Tryz.prog 92 [.slice a10 l10 c10, .slice m_6 m_6_n m_6_c] w6 (RetR R fun u12 w11 => ∃ (b13 : Bool), u12 = .bool b13 ∧ SameB w6 w11 [(Addr.add d9 1), (Addr.add d7 3)] ∧ (((!b13) =
    true → R (.returned (.slice none 0 0)) w11) ∧ ((!b13) = false → withSome p4 (fun d15 => RoomAt w11 (Addr.add d15 3) 0 [.bool true] ∧ ∀ w16, w16 = setCells w11 (Addr.add d15 3) 0 [.bool true] → CallsW Tryz.prog 89
    [.pointer (some ⟨w0, 0, none⟩)] w16 (RetR R fun u18 w17 => ∃ (a19 : Option Addr) (l19 c19 : Nat), u18 = .slice a19 l19 c19 ∧ ∃ (I21 : Option Addr → Nat → Nat → Int → World → Prop) (m21 : Option Addr → Nat → Nat → Int
    → World → Nat), I21 none 0 0 0 w17 ∧ ∀ (a22 : Option Addr) (l22 c22 : Nat) (n23 : Int) (w24 : World), I21 a22 l22 c22 n23 w24 → (((decide (n23 < ((l19 : Nat) : Int))) = true → withSome a19 (fun d25 => (0 ≤ n23 ∧ n23 <
    (l19 : Nat)) ∧ ∃ (n26 : Int), w24.cell? (Addr.add d25 (n23.toNat * 1)) = some (.int .i64 n26) ∧ CallsW Tryz.prog 90 [.pointer (some ⟨w0, 0, none⟩), .agg #[.int .i64 m_0, .int .i64 m_1, .int .i64 m_2, .int .i64 m_3,
    .int .i64 m_4, .int .i64 m_5, .slice m_6 m_6_n m_6_c, .slice m_7 m_7_n m_7_c, .slice m_8 m_8_n m_8_c], .int .i64 4, .int .i64 n26] w24 (RetR R fun u28 w27 => ∃ (n29 : Int) (n30 : Int) (n31 : Int) (n32 : Int) (n33 :
    Int) (n34 : Int) (a35 : Option Addr) (l35 c35 : Nat) (a36 : Option Addr) (l36 c36 : Nat) (a37 : Option Addr) (l37 c37 : Nat), u28 = .agg #[.int .i64 n29, .int .i64 n30, .int .i64 n31, .int .i64 n32, .int .i64 n33,
    .int .i64 n34, .slice a35 l35 c35, .slice a36 l36 c36, .slice a37 l37 c37] ∧ ∀ w39, Grew w27 w39 → withSome p4 (fun d40 => ∃ (m41 : Option Nat), w39.cell? (Addr.add d40 2) = some (.map m41) ∧ SemW Tryz.prog
    (Instr.lookup 137 (.map m41) (.int .i64 n26) false) (fun u43 w42 => ∃ (a44 : Option Addr) (l44 c44 : Nat), u43 = .slice a44 l44 c44 ∧ CallsW Tryz.prog 30 [.slice a44 l44 c44] w42 (RetR R fun u46 w45 => ∃ (a47 : Option
    Addr) (l47 c47 : Nat), u46 = .slice a47 l47 c47 ∧ ∀ (b49 : Nat) (w50 : World), Alloc w45 w50 b49 (.cells #[.int .i64 n29, .int .i64 n30, .int .i64 n31, .int .i64 n32, .int .i64 n33, .int .i64 n34, .slice a35 l35 c35,
    .slice a47 l47 c47, .slice a37 l37 c37] 48) → SemW Tryz.prog (Builtin.append_ #[51, 51] 51 #[.slice a22 l22 c22, .slice (some ⟨b49, 0, none⟩) 1 1]) (fun u52 w51 => ∃ (a53 : Option Addr) (l53 c53 : Nat), u52 = .slice
    a53 l53 c53 ∧ (I21 a53 l53 c53 (IntKind.i64.wrap (n23 + 1)) w51 ∧ m21 a53 l53 c53 (IntKind.i64.wrap (n23 + 1)) w51 < m21 a22 l22 c22 n23 w24)) w50)) w39)))) ∧ ((decide (n23 < ((l19 : Nat) : Int))) = false → R
    (.returned (.slice a22 l22 c22)) w24))))))))))))))
theorem sx46.ok {w0 : Nat} {m_0 : Int} {m_1 : Int} {m_2 : Int} {m_3 : Int} {m_4 : Int} {m_5 : Int} {m_6 : Option Addr} {m_6_n m_6_c : Nat} {m_7 : Option Addr} {m_7_n m_7_c : Nat} {m_8 : Option Addr} {m_8_n m_8_c : Nat} {R : Ending → World → Prop} {w : World} (h : sx46 w0 m_0 m_1 m_2 m_3 m_4 m_5 m_6 m_6_n m_6_c m_7 m_7_n m_7_c m_8 m_8_n m_8_c R w) : CallsW Tryz.prog 46 [.pointer (some ⟨w0, 0, none⟩), .agg #[.int .i64 m_0, .int .i64 m_1, .int .i64 m_2, .int .i64 m_3, .int .i64 m_4, .int .i64 m_5, .slice m_6 m_6_n m_6_c, .slice m_7 m_7_n m_7_c, .slice m_8 m_8_n m_8_c]] w R :=
  callsW_of mix Tryz.func46 (by kernel_rfl) (by kernel_rfl) (Eq.mpr (by kernel_rfl : denFn Tryz.prog { locals := [3, 9], sem := [50, 56], draws := [(2, { order := (.cons 0 (.cons 1 (.cons 2 (.cons 3 (.cons 4 (.cons 5 (.cons 6 (.cons 7 (.cons 8 (.cons 9 (.cons 10 (.cons 11 (.cons 12 (.cons 13 (.cons 14 (.cons 15 (.cons 16 (.cons 17 .nil)))))))))))))))))), bars := [] })], loops := [(7, { slots := [(6, .slice), (37, .int .i64)], cells := [] })] } Tryz.f46 [.pointer (some ⟨w0, 0, none⟩), .agg #[.int .i64 m_0, .int .i64 m_1, .int .i64 m_2, .int .i64 m_3, .int .i64 m_4, .int .i64 m_5, .slice m_6 m_6_n m_6_c, .slice m_7 m_7_n m_7_c, .slice m_8 m_8_n m_8_c]] R w = sx46 w0 m_0 m_1 m_2 m_3 m_4 m_5 m_6 m_6_n m_6_c m_7 m_7_n m_7_c m_8 m_8_n m_8_c R w) h)

/- (*reprise/worker.Worker).answer -/
def sx47 (d : Nat) (i_0 : Int) (i_1 : Int) (i_2 : Int) (i_3 : Int) (i_4 : Int) (i_5 : Int) (i_6 : Option Addr) (i_6_n i_6_c : Nat) (i_7 : Option Addr) (i_7_n i_7_c : Nat) (i_8 : Option Addr) (i_8_n i_8_c : Nat) (R : Ending → World → Prop) (w : World) : Prop :=
  ∀ w1, Grew w w1 → CallsW Tryz.prog 91 [.pointer (some ⟨d, 0, none⟩), .agg #[.int .i64 i_0, .int .i64 i_1, .int .i64 i_2, .int .i64 i_3, .int .i64 i_4, .int .i64 i_5, .slice i_6 i_6_n i_6_c, .slice i_7 i_7_n i_7_c, .slice
    i_8 i_8_n i_8_c]] w1 (RetR R fun u3 w2 => ∃ (p4 : Option Addr), u3 = .pointer p4 ∧ ∃ (J6 : Bool → World → Prop), ((((Option.isNone p4) = true → J6 true w2) ∧ ((Option.isNone p4) = false → withSome p4 (fun d7 => ∃ (b8
    : Bool), w2.cell? (Addr.add d7 3) = some (.bool b8) ∧ J6 (!b8) w2)))) ∧ ∀ (b9 : Bool) (w10 : World), J6 b9 w10 → ((b9 = true → R (.returned (.slice none 0 0)) w10) ∧ (b9 = false → (((i_5 != 0) = true → ∀ w11, Grew w10
    w11 → ∃ (m12 : Option Nat), w11.cell? ⟨d, 9, none⟩ = some (.map m12) ∧ SemW Tryz.prog (Builtin.delete_ #[102, 3] 0 #[.map m12, .int .i64 i_3]) (fun u14 w13 => u14 = .tuple #[] ∧ R (.returned (.slice none 0 0)) w13)
    w11) ∧ ((i_5 != 0) = false → (((i_0 == 5) = true → CallsW Tryz.prog 90 [.pointer (some ⟨d, 0, none⟩), .agg #[.int .i64 i_0, .int .i64 i_1, .int .i64 i_2, .int .i64 i_3, .int .i64 i_4, .int .i64 i_5, .slice i_6 i_6_n
    i_6_c, .slice i_7 i_7_n i_7_c, .slice i_8 i_8_n i_8_c], .int .i64 6, .int .i64 i_1] w10 (RetR R fun u16 w15 => ∃ (n17 : Int) (n18 : Int) (n19 : Int) (n20 : Int) (n21 : Int) (n22 : Int) (a23 : Option Addr) (l23 c23 :
    Nat) (a24 : Option Addr) (l24 c24 : Nat) (a25 : Option Addr) (l25 c25 : Nat), u16 = .agg #[.int .i64 n17, .int .i64 n18, .int .i64 n19, .int .i64 n20, .int .i64 n21, .int .i64 n22, .slice a23 l23 c23, .slice a24 l24
    c24, .slice a25 l25 c25] ∧ ∀ w27, Grew w15 w27 → ∀ w28, Grew w27 w28 → withSome p4 (fun d29 => ∃ (m30 : Option Nat), w28.cell? (Addr.add d29 2) = some (.map m30) ∧ SemW Tryz.prog (Instr.lookup 137 (.map m30) (.int .i64
    i_1) false) (fun u32 w31 => ∃ (a33 : Option Addr) (l33 c33 : Nat), u32 = .slice a33 l33 c33 ∧ CallsW Tryz.prog 93 [.slice a33 l33 c33] w31 (RetR R fun u35 w34 => ∃ (a36 : Option Addr) (l36 c36 : Nat), u35 = .slice a36
    l36 c36 ∧ ∀ (b38 : Nat) (w39 : World), Alloc w34 w39 b38 (.cells #[.int .i64 n17, .int .i64 n18, .int .i64 n19, .int .i64 n20, .int .i64 n21, .int .i64 n22, .slice a23 l23 c23, .slice a24 l24 c24, .slice a36 l36 c36]
    48) → R (.returned (.slice (some ⟨b38, 0, none⟩) 1 1)) w39)) w28))) ∧ ((i_0 == 5) = false → ∀ w40, Grew w10 w40 → withSome p4 (fun d41 => ∃ (m42 : Option Nat), w40.cell? (Addr.add d41 4) = some (.map m42) ∧ SemW
    Tryz.prog (Instr.mapUpdate 138 (.map m42) (.int .i64 i_1) (.agg #[])) (fun _ w43 => ∀ w44, Grew w43 w44 → withSome p4 (fun d45 => ∃ (m46 : Option Nat), w44.cell? (Addr.add d45 4) = some (.map m46) ∧ ∃ (n47 : Int),
    w44.cell? ⟨d, 1, none⟩ = some (.int .i64 n47) ∧ SemW Tryz.prog (Builtin.len_ #[138] 3 #[.map m46]) (fun u49 w48 => ∃ (n50 : Int), u49 = .int .i64 n50 ∧ SameB w44 w48 [⟨d, 1, none⟩, (Addr.add d45 4)] ∧ (((decide (n50 <
    n47)) = true → R (.returned (.slice none 0 0)) w48) ∧ ((decide (n50 < n47)) = false → CallsW Tryz.prog 90 [.pointer (some ⟨d, 0, none⟩), .agg #[.int .i64 i_0, .int .i64 i_1, .int .i64 i_2, .int .i64 i_3, .int .i64 i_4,
    .int .i64 i_5, .slice i_6 i_6_n i_6_c, .slice i_7 i_7_n i_7_c, .slice i_8 i_8_n i_8_c], .int .i64 8, .int .i64 0] w48 (RetR R fun u52 w51 => ∃ (n53 : Int) (n54 : Int) (n55 : Int) (n56 : Int) (n57 : Int) (n58 : Int)
    (a59 : Option Addr) (l59 c59 : Nat) (a60 : Option Addr) (l60 c60 : Nat) (a61 : Option Addr) (l61 c61 : Nat), u52 = .agg #[.int .i64 n53, .int .i64 n54, .int .i64 n55, .int .i64 n56, .int .i64 n57, .int .i64 n58,
    .slice a59 l59 c59, .slice a60 l60 c60, .slice a61 l61 c61] ∧ ∀ w63, Grew w51 w63 → withSome p4 (fun d64 => ∃ (a65 : Option Addr) (l65 c65 : Nat), w63.cell? (Addr.add d64 1) = some (.slice a65 l65 c65) ∧ CallsW
    Tryz.prog 60 [.slice a65 l65 c65] w63 (RetR R fun u67 w66 => ∃ (a68 : Option Addr) (l68 c68 : Nat), u67 = .slice a68 l68 c68 ∧ ∀ (b70 : Nat) (w71 : World), Alloc w66 w71 b70 (.cells #[.int .i64 n53, .int .i64 n54, .int
    .i64 n55, .int .i64 n56, .int .i64 n57, .int .i64 n58, .slice a68 l68 c68, .slice a60 l60 c60, .slice a61 l61 c61] 48) → R (.returned (.slice (some ⟨b70, 0, none⟩) 1 1)) w71)))))) w44)) w40))))))))
theorem sx47.ok {d : Nat} {i_0 : Int} {i_1 : Int} {i_2 : Int} {i_3 : Int} {i_4 : Int} {i_5 : Int} {i_6 : Option Addr} {i_6_n i_6_c : Nat} {i_7 : Option Addr} {i_7_n i_7_c : Nat} {i_8 : Option Addr} {i_8_n i_8_c : Nat} {R : Ending → World → Prop} {w : World} (h : sx47 d i_0 i_1 i_2 i_3 i_4 i_5 i_6 i_6_n i_6_c i_7 i_7_n i_7_c i_8 i_8_n i_8_c R w) : CallsW Tryz.prog 47 [.pointer (some ⟨d, 0, none⟩), .agg #[.int .i64 i_0, .int .i64 i_1, .int .i64 i_2, .int .i64 i_3, .int .i64 i_4, .int .i64 i_5, .slice i_6 i_6_n i_6_c, .slice i_7 i_7_n i_7_c, .slice i_8 i_8_n i_8_c]] w R :=
  callsW_of mix Tryz.func47 (by kernel_rfl) (by kernel_rfl) (Eq.mpr (by kernel_rfl : denFn Tryz.prog { locals := [3, 6, 7], sem := [46, 62], draws := [(5, { order := (.cons 0 (.cons 1 (.cons 2 (.cons 3 (.cons 4 (.cons 5 (.cons 6 .nil))))))), bars := [6] }), (9, { order := (.cons 0 (.cons 1 (.cons 2 (.cons 3 (.cons 4 (.cons 5 (.cons 6 (.cons 7 (.cons 8 (.cons 9 .nil)))))))))), bars := [6, 7, 9] }), (11, { order := (.cons 0 (.cons 1 (.cons 2 (.cons 3 (.cons 4 (.cons 5 (.cons 6 (.cons 7 .nil)))))))), bars := [7] }), (12, { order := (.cons 0 (.cons 1 (.cons 2 (.cons 3 (.cons 5 (.cons 6 (.cons 7 (.cons 8 (.cons 9 (.cons 4 (.cons 10 .nil))))))))))), bars := [] })], cuts := [(3, { slots := [(11, .bool)], cells := [] })] } Tryz.f47 [.pointer (some ⟨d, 0, none⟩), .agg #[.int .i64 i_0, .int .i64 i_1, .int .i64 i_2, .int .i64 i_3, .int .i64 i_4, .int .i64 i_5, .slice i_6 i_6_n i_6_c, .slice i_7 i_7_n i_7_c, .slice i_8 i_8_n i_8_c]] R w = sx47 d i_0 i_1 i_2 i_3 i_4 i_5 i_6 i_6_n i_6_c i_7 i_7_n i_7_c i_8 i_8_n i_8_c R w) h)

/- (*reprise/worker.Worker).Take -/
def sx13 (d : Nat) (i : Nat) (p2_0 : Int) (p2_1 : Int) (p2_2 : Int) (p2_3 : Int) (p2_4 : Int) (p2_5 : Int) (p2_6 : Option Addr) (p2_6_n p2_6_c : Nat) (p2_7 : Option Addr) (p2_7_n p2_7_c : Nat) (p2_8 : Option Addr) (p2_8_n p2_8_c : Nat) (R : Ending → World → Prop) (w : World) : Prop :=
  ∀ w1, Grew w w1 → CallsW Tryz.prog 44 [.agg #[.int .i64 p2_0, .int .i64 p2_1, .int .i64 p2_2, .int .i64 p2_3, .int .i64 p2_4, .int .i64 p2_5, .slice p2_6 p2_6_n p2_6_c, .slice p2_7 p2_7_n p2_7_c, .slice p2_8 p2_8_n
    p2_8_c]] w1 (RetR R fun u3 w2 => ∃ (b4 : Bool), u3 = .bool b4 ∧ (((!b4) = true → R (.returned (.tuple #[.slice none 0 0, .int .i64 150])) w2) ∧ ((!b4) = false → ∃ (n6 : Int), w2.cell? ⟨d, 8, none⟩ = some (.int .i64
    n6) ∧ ∀ w7, Grew w2 w7 → (((p2_2 != n6) = true → R (.returned (.tuple #[.slice none 0 0, .int .i64 170])) w7) ∧ ((p2_2 != n6) = false → ∀ w8, Grew w7 w8 → ∃ (n9 : Int) (n10 : Int) (n11 : Int) (a12 : Option Addr) (l12
    c12 : Nat) (n13 : Int) (n14 : Int) (n15 : Int) (n16 : Int), CellsAt w8 ⟨d, 0, none⟩ 0 [.int .i64 n9, .int .i64 n10, .int .i64 n11, .slice a12 l12 c12, .int .i64 n13, .int .i64 n14, .int .i64 n15, .int .i64 n16] ∧
    CallsW Tryz.prog 38 [.agg #[.int .i64 n9, .int .i64 n10, .int .i64 n11, .slice a12 l12 c12, .int .i64 n13, .int .i64 n14, .int .i64 n15, .int .i64 n16], .int .i64 p2_1] w8 (RetR R fun u18 w17 => ∃ (n19 : Int), u18 =
    .int .i64 n19 ∧ ∃ (J21 : Bool → World → Prop), ((((p2_0 == 1) = true → J21 (n19 == 1) w17) ∧ ((p2_0 == 1) = false → J21 false w17))) ∧ ∀ (b22 : Bool) (w23 : World), J21 b22 w23 → ((b22 = true → CallsW Tryz.prog 45
    [.pointer (some ⟨d, 0, none⟩), .pointer (some ⟨i, 0, none⟩), .agg #[.int .i64 p2_0, .int .i64 p2_1, .int .i64 p2_2, .int .i64 p2_3, .int .i64 p2_4, .int .i64 p2_5, .slice p2_6 p2_6_n p2_6_c, .slice p2_7 p2_7_n p2_7_c,
    .slice p2_8 p2_8_n p2_8_c]] w23 (RetR R fun u25 w24 => ∃ (a26 : Option Addr) (l26 c26 : Nat), u25 = .slice a26 l26 c26 ∧ R (.returned (.tuple #[.slice a26 l26 c26, .int .i64 0])) w24)) ∧ (b22 = false → ∃ (J28 : Bool →
    World → Prop), ((((p2_0 == 3) = true → J28 (n19 == 1) w23) ∧ ((p2_0 == 3) = false → J28 false w23))) ∧ ∀ (b29 : Bool) (w30 : World), J28 b29 w30 → ((b29 = true → CallsW Tryz.prog 46 [.pointer (some ⟨d, 0, none⟩), .agg
    #[.int .i64 p2_0, .int .i64 p2_1, .int .i64 p2_2, .int .i64 p2_3, .int .i64 p2_4, .int .i64 p2_5, .slice p2_6 p2_6_n p2_6_c, .slice p2_7 p2_7_n p2_7_c, .slice p2_8 p2_8_n p2_8_c]] w30 (RetR R fun u32 w31 => ∃ (a33 :
    Option Addr) (l33 c33 : Nat), u32 = .slice a33 l33 c33 ∧ R (.returned (.tuple #[.slice a33 l33 c33, .int .i64 0])) w31)) ∧ (b29 = false → (((p2_0 == 5) = true → (((n19 == 3) = true → CallsW Tryz.prog 47 [.pointer (some
    ⟨d, 0, none⟩), .agg #[.int .i64 p2_0, .int .i64 p2_1, .int .i64 p2_2, .int .i64 p2_3, .int .i64 p2_4, .int .i64 p2_5, .slice p2_6 p2_6_n p2_6_c, .slice p2_7 p2_7_n p2_7_c, .slice p2_8 p2_8_n p2_8_c]] w30 (RetR R fun
    u36 w35 => ∃ (a37 : Option Addr) (l37 c37 : Nat), u36 = .slice a37 l37 c37 ∧ R (.returned (.tuple #[.slice a37 l37 c37, .int .i64 0])) w35)) ∧ ((n19 == 3) = false → R (.returned (.tuple #[.slice none 0 0, .int .i64
    0])) w30))) ∧ ((p2_0 == 5) = false → (((p2_0 == 7) = true → (((n19 == 3) = true → CallsW Tryz.prog 47 [.pointer (some ⟨d, 0, none⟩), .agg #[.int .i64 p2_0, .int .i64 p2_1, .int .i64 p2_2, .int .i64 p2_3, .int .i64
    p2_4, .int .i64 p2_5, .slice p2_6 p2_6_n p2_6_c, .slice p2_7 p2_7_n p2_7_c, .slice p2_8 p2_8_n p2_8_c]] w30 (RetR R fun u40 w39 => ∃ (a41 : Option Addr) (l41 c41 : Nat), u40 = .slice a41 l41 c41 ∧ R (.returned (.tuple
    #[.slice a41 l41 c41, .int .i64 0])) w39)) ∧ ((n19 == 3) = false → R (.returned (.tuple #[.slice none 0 0, .int .i64 0])) w30))) ∧ ((p2_0 == 7) = false → R (.returned (.tuple #[.slice none 0 0, .int .i64 0]))
    w30))))))))))))))
theorem sx13.ok {d : Nat} {i : Nat} {p2_0 : Int} {p2_1 : Int} {p2_2 : Int} {p2_3 : Int} {p2_4 : Int} {p2_5 : Int} {p2_6 : Option Addr} {p2_6_n p2_6_c : Nat} {p2_7 : Option Addr} {p2_7_n p2_7_c : Nat} {p2_8 : Option Addr} {p2_8_n p2_8_c : Nat} {R : Ending → World → Prop} {w : World} (h : sx13 d i p2_0 p2_1 p2_2 p2_3 p2_4 p2_5 p2_6 p2_6_n p2_6_c p2_7 p2_7_n p2_7_c p2_8 p2_8_n p2_8_c R w) : CallsW Tryz.prog 13 [.pointer (some ⟨d, 0, none⟩), .pointer (some ⟨i, 0, none⟩), .agg #[.int .i64 p2_0, .int .i64 p2_1, .int .i64 p2_2, .int .i64 p2_3, .int .i64 p2_4, .int .i64 p2_5, .slice p2_6 p2_6_n p2_6_c, .slice p2_7 p2_7_n p2_7_c, .slice p2_8 p2_8_n p2_8_c]] w R :=
  callsW_of mix Tryz.func13 (by kernel_rfl) (by kernel_rfl) (Eq.mpr (by kernel_rfl : denFn Tryz.prog { locals := [5], known := [11, 14], draws := [(7, { order := (.cons 0 (.cons 1 (.cons 2 (.cons 3 (.cons 4 (.cons 5 (.cons 6 (.cons 7 .nil)))))))), bars := [6] })], cuts := [(9, { slots := [(35, .bool)], cells := [] }), (11, { slots := [(47, .bool)], cells := [] })] } Tryz.f13 [.pointer (some ⟨d, 0, none⟩), .pointer (some ⟨i, 0, none⟩), .agg #[.int .i64 p2_0, .int .i64 p2_1, .int .i64 p2_2, .int .i64 p2_3, .int .i64 p2_4, .int .i64 p2_5, .slice p2_6 p2_6_n p2_6_c, .slice p2_7 p2_7_n p2_7_c, .slice p2_8 p2_8_n p2_8_c]] R w = sx13 d i p2_0 p2_1 p2_2 p2_3 p2_4 p2_5 p2_6 p2_6_n p2_6_c p2_7 p2_7_n p2_7_c p2_8 p2_8_n p2_8_c R w) h)

theorem elMsg : ElemOk Tryz.prog 51 48 Enc.msg.sz 120 := ElemOk.mk' (z := .agg #[.int .i64 0, .int .i64 0, .int .i64 0, .int .i64 0, .int .i64 0, .int .i64 0, .slice none 0 0, .slice none 0 0, .slice none 0 0]) (by kernel_rfl) (by kernel_rfl) (by kernel_rfl)
theorem ClonePair_ok {a : Option Addr} {n c : Nat} {l : List PairV} {w : World} (hr : Reads w Enc.pair (a, n, c) l) (hl : l.length * 24 ≤ 140737488355328) : CallsW Tryz.prog 93 [.slice a n c] w (Rets (Fresh w 83 Enc.pair l)) := by
  refine sx93.ok ?_
  unfold sx93
  refine ⟨fun h => ?_, fun h b w1 hal => ?_⟩
  · have hn : a = none := by simpa using h
    have hl0 : l = [] := by
      cases l with
      | nil => rfl
      | cons x l => obtain ⟨d, hd, -⟩ := hr.1 0 x rfl; rw [hn] at hd; cases hd
    subst hl0
    exact ⟨_, rfl, none, 0, 0, rfl, Own.nil _ _ _ _, Grew.refl _⟩
  · have hr1 := hr.grew hal.grew
    have ho : Own w1 w.heap.size 83 Enc.pair (some ⟨b, 0, none⟩) 0 0 [] := Own.alloc (l := []) hal (Nat.le_refl _) rfl (by simp [maxLen])
    refine append_sl elPair ho hr1.1 hr1.2.1 hr1.2.2.1 hal.grew.size (by simp only [maxLen, List.length_nil]; omega) (by simpa using hl) ?_
    rintro v w2 ⟨a2, n2, c2, rfl, ho2, hu2, hb2⟩
    exact ⟨_, _, _, rfl, _, rfl, a2, n2, c2, rfl, by simpa using ho2, hal.grew.then_own hu2 fun b hb => (ho.blk hb).1⟩
theorem EqInt_ok {a b : Option Addr} {n c m d : Nat} {l r : List Int} {w : World} (hr : Reads w (Enc.int .i64) (a, n, c) l) (hi : Reads w (Enc.int .i64) (b, m, d) r) (hl : l.length ≤ 9223372036854775806) :
    CallsW Tryz.prog 92 [.slice a n c, .slice b m d] w (Rets fun u w' => u = .bool (decide (l = r)) ∧ Grew w w') := by
  refine sx92.ok ?_
  unfold sx92
  have hn : n = l.length := hr.2.1
  subst hn
  have hm : m = r.length := hi.2.1
  subst hm
  refine ⟨fun hne => ⟨_, rfl, ?_, Grew.refl _⟩, fun heq => ?_⟩
  · have : ¬ l = r := fun e => by rw [e] at hne; simp at hne
    rw [decide_eq_false this]
  have hlen : l.length = r.length := by simp at heq; omega
  refine ⟨fun i w' => ∃ k : Nat, i = k ∧ k ≤ l.length ∧ l.take k = r.take k ∧ Grew w w', fun i _ => l.length - i.toNat, ⟨0, rfl, Nat.zero_le _, rfl, Grew.refl _⟩, ?_⟩
  rintro n2 w3 ⟨k, rfl, hk, hall, hg3⟩
  refine ⟨fun hlt => ?_, fun hge => ?_⟩
  · simp only [decide_eq_true_eq] at hlt
    obtain ⟨d1, e, rfl, he, hc⟩ := (hr.grew hg3).at0 (k := k) (by omega)
    obtain ⟨d2, f, rfl, hf, hc2⟩ := (hi.grew hg3).at0 (k := k) (by omega)
    have hw : IntKind.i64.wrap ((k : Int) + 1) = ((k + 1 : Nat) : Int) := by rw [IntKind.wrap_i64]; omega
    rw [withSome]
    refine ⟨⟨by omega, by omega⟩, _, i64cell hc, ?_⟩
    rw [withSome]
    refine ⟨⟨by omega, by omega⟩, _, i64cell hc2, fun w8 hg8 => ⟨fun hne => ⟨_, rfl, ?_, hg3.trans hg8⟩, fun h1 => ⟨⟨k + 1, hw, by omega, ?_, hg3.trans hg8⟩, by simp only [hw]; omega⟩⟩⟩
    · have : ¬ l = r := fun e' => by rw [e', hf] at he; cases he; simp at hne
      rw [decide_eq_false this]
    · have : e = f := by simpa using h1
      rw [take_snoc he, take_snoc hf, hall, this]
  · simp only [decide_eq_false_iff_not] at hge
    refine ⟨_, rfl, ?_, hg3⟩
    rw [List.take_of_length_le (by omega), List.take_of_length_le (by omega)] at hall
    rw [decide_eq_true hall]

structure MsgsOwn (w : World) (B : Nat) (a : Option Addr) (n c : Nat) (xs : List Msg) : Prop where
  own : Own w B 48 Enc.msg a n c xs
  each : ∀ x ∈ xs, MO w B x
theorem MsgsOwn.grew {w w' : World} {B : Nat} {a : Option Addr} {n c : Nat} {xs : List Msg} (h : MsgsOwn w B a n c xs) (hg : Grew w w') : MsgsOwn w' B a n c xs := ⟨h.own.grew hg, fun x hx => (h.each x hx).grew hg⟩
theorem MsgsOwn.base {w : World} {B B' : Nat} {a : Option Addr} {n c : Nat} {xs : List Msg} (h : MsgsOwn w B a n c xs) (hb : B' ≤ B) : MsgsOwn w B' a n c xs := ⟨h.own.base hb, fun x hx => (h.each x hx).base hb⟩
theorem MsgsOwn.nil (w : World) (B : Nat) : MsgsOwn w B none 0 0 [] := ⟨Own.nil _ _ _ _, fun x hx => (by simp at hx)⟩
theorem MsgsOwn.upd {S : Nat → Prop} {w w' : World} {B : Nat} {a : Option Addr} {n c : Nat} {xs : List Msg} (h : MsgsOwn w B a n c xs) (hu : Upd S w w') (h1 : ∀ b, Blk a b → ¬ S b) (h2 : ∀ x ∈ xs, ∀ b, x.Blk b → ¬ S b) : MsgsOwn w' B a n c xs := ⟨h.own.upd hu h1, fun x hx => (h.each x hx).upd hu (h2 x hx)⟩
/-- what a worker that was handed a message hands back -/
def TookR (w : World) (B : Nat) (X : WorkX) (V' : WorkV) (ms : List MsgV) (a : Option Addr) (n c : Nat) (w' : World) : Prop := ∃ X' xs, WM w B X w' X' V' ∧ MsgsOwn w' w.heap.size a n c xs ∧ xs.map (·.c) = ms ∧ (∀ b, Blk a b → ¬ WFoot X' b) ∧ ∀ x ∈ xs, ∀ b, x.Blk b → ¬ WFoot X' b
theorem took_mk {w w1 w' : World} {B : Nat} {X X' : WorkX} {V' : WorkV} {ms : List MsgV} {a : Option Addr} {n c : Nat} {xs : List Msg} (hM : WM w B X w1 X' V') (hg : Grew w1 w') (hO : MsgsOwn w' w1.heap.size a n c xs) (hc : xs.map (·.c) = ms) : TookR w B X V' ms a n c w' := by
  refine ⟨X', xs, hM.more hg, hO.base hM.upd.size, hc, fun b hb hf => ?_, fun x hx b hb hf => ?_⟩
  · have := (hO.own.blk hb).1; have := (hM.at_.foot hf).2; omega
  · have := ((hO.each x hx).blk hb).1; have := (hM.at_.foot hf).2; omega
theorem took_nil {w w' : World} {B : Nat} {X : WorkX} {V : WorkV} (h : WA w B X V) (hg : Grew w w') : TookR w B X V [] none 0 0 w' := took_mk (WorkMoves.still h (Grew.refl w)) hg (MsgsOwn.nil _ _) rfl
theorem TookR.pre {w0 w w' : World} {B : Nat} {X : WorkX} {V' : WorkV} {ms : List MsgV} {a : Option Addr} {n c : Nat} (h : TookR w B X V' ms a n c w') (hg : Grew w0 w) : TookR w0 B X V' ms a n c w' := by
  obtain ⟨X', xs, h1, h2, h3⟩ := h
  exact ⟨X', xs, h1.pre hg, h2.base hg.size, h3⟩
def Took (w : World) (B : Nat) (X : WorkX) (r : WorkV × List MsgV) (u : Value) (w' : World) : Prop := ∃ a n c, u = .slice a n c ∧ TookR w B X r.1 r.2 a n c w'
/-- one message of new memory -/
theorem one_msg {w1 w2 w' : World} {b : Nat} {x : Msg} (hg : Grew w1 w2) (hx : MO w2 w1.heap.size x) (hal : Alloc w2 w' b (.cells x.vals.toArray 48)) : MsgsOwn w' w1.heap.size (some ⟨b, 0, none⟩) 1 1 [x] := by
  refine ⟨(Own.alloc (E := Enc.msg) (l := [x]) hal (Nat.le_refl _) (by simp [Enc.msg]) (by simp [maxLen])).base hg.size, fun y hy => ?_⟩
  simp at hy; subst hy; exact hx.grew hal.grew
theorem MO.nil {w : World} {B : Nat} (m : MsgV) (h1 : m.ends = []) (h2 : m.keys = []) (h3 : m.pairs = []) : MO w B ⟨m, (none, 0, 0), (none, 0, 0), (none, 0, 0)⟩ := ⟨by rw [h1]; exact Own.nil _ _ _ _, by rw [h2]; exact Own.nil _ _ _ _, by rw [h3]; exact Own.nil _ _ _ _⟩
theorem uPm : Tryz.prog.underlying 137 = some (.map 3 46) := by kernel_rfl
theorem uAm : Tryz.prog.underlying 138 = some (.map 3 127) := by kernel_rfl
theorem zSlP : ∀ w, (zeroValue 46).run Tryz.prog w = .ok (.slice none 0 0) w := zero_runS (by kernel_rfl)
theorem form_len {v : SrcV} {f : List Int} {most : Int} (hv : v.Fits) (h : (formV v f most).err = 0) : (1 ≤ most ∧ most ≤ 16) ∧ endsE v f = 0 ∧ formV v f most = ⟨toV v most f, btwV v f (toV v most f) f.length, 0⟩ ∧ f.length ≤ 4 := by
  unfold formV at h ⊢
  by_cases h1 : most < 1 ∨ 16 < most
  · rw [if_pos h1] at h; cases h
  · rw [if_neg h1] at h ⊢
    by_cases h2 : endsE v f = 0
    · rw [if_pos h2]
      have := (endsE_ok.1 h2).1; have := hv.parts
      exact ⟨by omega, h2, rfl, by omega⟩
    · rw [if_neg h2] at h; cases h
theorem btwI_16 {v : SrcV} {f : List Int} {most : Int} (hm : 1 ≤ most ∧ most ≤ 16) (hE : endsE v f = 0) (i : Nat) : (btwI v f (toV v most f) i).length ≤ 16 := by
  unfold btwI
  rw [List.length_drop, List.length_take]
  cases he : f[i]? with
  | none =>
    rw [List.getD_eq_getElem?_getD, List.getD_eq_getElem?_getD, he, List.getElem?_eq_none (by rw [toV_len]; exact List.getElem?_eq_none_iff.1 he)]; simp
  | some e =>
    rw [getD_of he, getD_of (toV_get he)]
    have := (endsE_ok.1 hE).2 i e he
    unfold toI
    split <;> omega
theorem btwV_16 {v : SrcV} {f : List Int} {most : Int} (hm : 1 ≤ most ∧ most ≤ 16) (hE : endsE v f = 0) : ∀ n, (btwV v f (toV v most f) n).length ≤ 16 * n
  | 0 => by simp [btwV]
  | n + 1 => by rw [btwV_succ, List.length_append]; have := btwV_16 hm hE n; have := btwI_16 hm hE n; omega
theorem toV_256 {v : SrcV} {f : List Int} {most : Int} (hv : v.Fits) (hm : 1 ≤ most) (hE : endsE v f = 0) : ∀ e ∈ toV v most f, 0 ≤ e ∧ e ≤ 256 := by
  intro e he
  obtain ⟨i, hi⟩ := List.getElem?_of_mem he
  have hil : i < f.length := by have := (List.getElem?_eq_some_iff.1 hi).1; rwa [toV_len] at this
  rw [toV_get (List.getElem?_eq_getElem hil)] at hi
  cases hi
  have h1 := (endsE_ok.1 hE).2 i _ (List.getElem?_eq_getElem hil)
  have h2 := len_256 hv (i : Int)
  unfold toI
  split <;> omega
theorem newA_ok {V : WorkV} {s : SrcV} {m : MsgV} (hV : V.Ok) (hs : s.Fits) (h : (formV s m.ends V.plan.batch).err = 0) : (V.newA s m).Ok V.plan ∧ (tableT (bAll V.plan.ops V.plan.agg (formV s m.ends V.plan.batch).recs).1).length ≤ 64 ∧ ∀ x ∈ tableT (bAll V.plan.ops V.plan.agg (formV s m.ends V.plan.batch).recs).1, x.Fits := by
  obtain ⟨h1, h2, h3, h4⟩ := form_len hs h
  have hG := hV.good
  have hrf : ∀ r ∈ (formV s m.ends V.plan.batch).recs, r.Fits := by rw [h3]; exact btwV_fits hs _ _ _
  have hrl : (formV s m.ends V.plan.batch).recs.length ≤ 64 := by rw [h3]; have := btwV_16 (v := s) h1 h2 m.ends.length; simp only; omega
  have htf := tabl_fits (kind := V.plan.agg) hV.ops hrf
  have htl := tabl_len (l := V.plan.ops) (kind := V.plan.agg) (rs := (formV s m.ends V.plan.batch).recs)
  rw [batch_same] at htf htl
  refine ⟨⟨?_, dealP_len _ _, fun l hl => ?_, by simp [WorkV.newA], by simp [WorkV.newA]⟩, by omega, htf⟩
  · unfold WorkV.newA; rw [h3]
    exact ⟨by rw [toV_len]; exact h4, toV_256 hs h1.1 h2⟩
  · obtain ⟨i, -, rfl⟩ := List.mem_map.1 hl
    exact ⟨Nat.le_trans (dealI_len _ _ _) (by omega), fun x hx => htf x (List.mem_filter.1 hx).1⟩

set_option maxHeartbeats 2000000 in
theorem assign_ok {w : World} {B B2 : Nat} {X : WorkX} {V : WorkV} {m : Msg} {sx : SrcX} {s : SrcV} (h : WA w B X V) (hs : SrA w B2 sx s) (hm : m.At w) (hms : 1 ≤ m.c.batch ∧ m.c.batch ≤ 1099511627776) (hB : B ≤ w.heap.size) :
    CallsW Tryz.prog 45 [.pointer (some ⟨X.p, 0, none⟩), .pointer (some ⟨sx.p, 0, none⟩), m.val] w (Rets (Took w B X (V.assign s m.c))) := by
  refine sx45.ok ?_
  unfold sx45
  have nb : ∀ {x y : World}, SameB x y [] := by intro x y; simp [SameB]
  have hG := h.ok.good
  have hfit := hs.fits
  intro w1 hg1
  refine ⟨fun w' => Grew w w' ∧ V.stale m.c = false, fun w3 hg3 => ?_, ?_⟩
  · have hg3 := hg1.trans hg3
    have h3 := h.grew hg3
    have hget := h.get m.c.batch
    refine ⟨_, wMap h3, map_lookup (F := attF) uHeld uInt zAtt h3.map ?_⟩
    cases hx : getM X.l m.c.batch with
    | none =>
      rw [hx] at hget
      exact ⟨_, rfl, fun h => (by simp at h), fun _ w11 hg11 => ⟨hg3.trans hg11, by unfold WorkV.stale; rw [hget]; rfl⟩⟩
    | some x =>
      rw [hx] at hget
      obtain ⟨hA, -, -⟩ := h3.att hx
      refine ⟨_, rfl, fun _ => ?_, fun h => (by simp at h)⟩
      rw [withSome]
      have hc : w3.cell? ⟨x.b, 0, none⟩ = some (.int .i64 x.c.number) := by rw [hA.row.cell]; rfl
      have hst : V.stale m.c = decide (m.c.att ≤ x.c.number) := by unfold WorkV.stale; rw [hget]; rfl
      refine ⟨_, hc, fun w10 hg10 => ⟨fun hge => ?_, fun hlt => ⟨hg3.trans hg10, by rw [hst]; exact hlt⟩⟩⟩
      refine ⟨_, rfl, none, 0, 0, rfl, ?_⟩
      have : V.assign s m.c = (V, []) := by unfold WorkV.assign; rw [if_pos (by rw [hst]; exact hge)]
      rw [this]
      exact took_nil h (hg3.trans hg10)
  rintro w12 ⟨hg12, hst⟩ w13 hg13
  have hg13 := hg12.trans hg13
  have h13 := h.grew hg13
  have hc5 : w13.cell? ⟨X.p, 5, none⟩ = some (.int .i64 V.plan.batch) := by rw [h13.row.cell]; rfl
  refine ⟨_, hc5, (Form_ok (hs.grew hg13) (hm.grew hg13).e).use fun u w15 ⟨a17, l17, c17, a18, l18, c18, hv, hoE, hoR, hg15⟩ => ?_⟩
  subst hv
  have hg15' := hg13.trans hg15
  have hasg : ∀ r, V.assign s m.c = r ↔ (if (formV s m.c.ends V.plan.batch).err ≠ 0 then (V, []) else (V.setA m.c.batch (V.newA s m.c), [{ V.say m.c 2 0 with ends := (formV s m.c.ends V.plan.batch).to }])) = r := by
    intro r; unfold WorkV.assign; rw [if_neg (by rw [hst]; simp)]
  refine ⟨_, _, _, _, _, _, _, rfl, fun hne => ?_, fun heq w21 hg21 => ?_⟩
  · rw [(hasg (V, [])).2 (if_pos (by simpa using hne))]
    exact ⟨_, rfl, none, 0, 0, rfl, took_nil h hg15'⟩
  have herr : (formV s m.c.ends V.plan.batch).err = 0 := by simpa using heq
  rw [(hasg _).2 (if_neg (by simp [herr]))]
  obtain ⟨f1, f2, f3, f4⟩ := form_len hfit herr
  obtain ⟨hAok, hTl, hTf⟩ := newA_ok h.ok hfit herr
  have hrf : ∀ r ∈ (formV s m.c.ends V.plan.batch).recs, r.Fits := by rw [f3]; exact btwV_fits hfit _ _ _
  have hrl : (formV s m.c.ends V.plan.batch).recs.length ≤ 64 := by rw [f3]; have := btwV_16 (v := s) f1 f2 m.c.ends.length; simp only; omega
  generalize hF : formV s m.c.ends V.plan.batch = F at hoE hoR hrf hrl
  have hg21' := hg15'.trans hg21
  have h21 := h.grew hg21'
  have hc3 : w21.cell? ⟨X.p, 3, none⟩ = some (.slice X.o.1 X.o.2.1 X.o.2.2) := by rw [h21.row.cell]; rfl
  have hc4 : w21.cell? ⟨X.p, 4, none⟩ = some (.int .i64 V.plan.agg) := by rw [h21.row.cell]; rfl
  refine ⟨_, _, _, hc3, _, hc4, (Batch_ok (kind := V.plan.agg) h21.ops.reads h.ok.ops (hoR.grew hg21).reads hrf (by omega)).use fun u w24 ⟨a26, l26, c26, hv, hoT, hg24⟩ => ?_⟩
  simp only [hG.ops, hG.agg, and_self, if_true] at hv hoT
  rw [batch_same] at hoT
  subst hv
  have hg24' := hg21'.trans hg24
  have hT : tableT (bAll V.plan.ops V.plan.agg F.recs).1 = tableT (bAll V.plan.ops V.plan.agg (formV s m.c.ends V.plan.batch).recs).1 := by rw [hF]
  rw [← hT] at hTl hTf
  refine ⟨_, _, _, _, _, rfl, fun h => (by simp at h), fun _ => make_map fun pm w30 halp => ⟨_, rfl, make_map fun am w33 hala => ⟨_, rfl, fun b36 w37 hal37 => ?_⟩⟩⟩
  have hgm := halp.grew.trans (hala.grew.trans hal37.grew)
  have hg37 := hg24'.trans hgm
  have h37 := h.grew hg37
  obtain ⟨hpA, hpC⟩ := wPlan h37
  refine ⟨_, _, _, _, _, _, _, _, _, _, hpC, (Deal_ok (x := plX X V) hpA hG (hoT.grew hgm).reads hTf (by omega)).use fun u w46 ⟨a48, l48, c48, hs48, hv, hoH, hD, hg46⟩ => ?_⟩
  subst hv
  have hg46' := hg37.trans hg46
  rw [show (plX X V).c = V.plan from rfl] at hD
  have hdl : hs48.length = V.plan.stores.toNat := by rw [hD.len, dealP_len]
  have hl48 : l48 = V.plan.stores.toNat := by rw [hoH.len, hdl]
  have hSt := hG.stores; have hWk := hG.workers
  have zk : ∀ (i : Nat) (hd : Sl3), i < V.plan.stores.toNat → hs48[i]? = some hd → ((storesP V.plan).zip hs48)[i]? = some (1 + V.plan.workers + (i : Int), hd) := fun i hd hi hh => zip_get (storesP_get hi) hh
  have s37 := hg37.size
  have npm := halp.new; have nam := hala.new; have nb36 := hal37.new
  have lpm := halp.lt; have lam := hala.lt; have lb36 := hal37.lt
  have sa := hala.grew.size; have sp := halp.grew.size; have s24 := hg24'.size; have s46 := hg46.size
  have hrow37 : Row w37 b36 140 [.int .i64 m.c.att, .slice a17 l17 c17, .map (some pm), .bool false, .map (some am)] := hal37.at_
  refine ⟨_, _, _, rfl, fun i w' => ∃ k : Nat, i = k ∧ k ≤ V.plan.stores.toNat ∧ MapIs w' pm .i64 slF (((storesP V.plan).zip hs48).take k) ∧ Upd (fun b => b = pm) w46 w', fun i _ => 9 - i.toNat, ⟨0, rfl, Nat.zero_le _, by simpa using ((MapIs.empty (F := slF) halp).grew (hala.grew.trans hal37.grew)).grew hg46, Upd.refl _ _⟩, ?_⟩
  have hpmX : ∀ b, WFoot X b → b ≠ pm := fun b hb e => by have := (h.foot hb).2; have := hg24'.size; omega
  rintro n51 w52 ⟨k, rfl, hk, hpm52, hu52⟩
  have hg52 : Grew w w52 := hg46'.then_own hu52 fun b e => by omega
  have h52 := h.grew hg52
  refine ⟨fun hlt => ?_, fun hge w64 hg64 => ?_⟩
  · simp only [decide_eq_true_eq] at hlt
    have hks : k < V.plan.stores.toNat := by omega
    have hw : IntKind.i64.wrap ((k : Int) + 1) = ((k + 1 : Nat) : Int) := by rw [IntKind.wrap_i64]; omega
    have hoH52 := hoH.upd hu52 fun b hb e => by have := (hoH.blk hb).1; omega
    obtain ⟨d, hd, hdd, hh, hhc⟩ := hoH52.reads.at0 (k := k) (by omega)
    have hhcell : w52.cell? (Addr.add d (((k : Nat) : Int).toNat * 1)) = some (.slice hd.1 hd.2.1 hd.2.2) := by
      have := cellsAt_get hhc 0 _ rfl
      simpa [Enc.slice, Addr.add_zero'] using this
    rw [hdd, withSome]
    refine ⟨⟨by omega, by omega⟩, _, _, _, hhcell, fun w55 hg55 => ?_⟩
    have hrow55 := (((hrow37.grew hg46).upd hu52 (by omega)).grew hg55)
    have hc2 : w55.cell? ⟨b36, 2, none⟩ = some (.map (some pm)) := by rw [hrow55.cell]; rfl
    refine ⟨_, hc2, (stores_ok (h52.grew hg55)).use fun u w57 ⟨a59, l59, c59, hv, ho59, hg57⟩ => ?_⟩
    subst hv
    refine ⟨_, _, _, rfl, ⟨hg57.block _ hrow55.lt, trivial⟩, ?_⟩
    have hl59 : l59 = V.plan.stores.toNat := by rw [ho59.len, storesP_len]
    obtain ⟨d2, nd, hd2, hnd, hndc⟩ := ho59.reads.at0 (k := k) (by omega)
    rw [storesP_get hks] at hnd
    cases hnd
    rw [hd2, withSome]
    refine ⟨⟨by omega, by omega⟩, _, i64cell hndc, ?_⟩
    have hz := zk k hd hks hh
    have hnew : setM (((storesP V.plan).zip hs48).take k) (1 + V.plan.workers + (k : Int)) hd = ((storesP V.plan).zip hs48).take (k + 1) := by
      rw [take_snoc hz]
      refine setM_new fun p hp e => ?_
      obtain ⟨j, hj⟩ := List.getElem?_of_mem hp
      rw [List.getElem?_take] at hj
      split at hj
      · rename_i hjk
        have hjl := (List.getElem?_eq_some_iff.1 hj).1
        rw [List.length_zip, storesP_len, hdl] at hjl
        rw [List.getElem?_zip_eq_some] at hj
        rw [storesP_get (by omega)] at hj
        have := hj.1; simp only [Option.some.injEq] at this
        omega
      · cases hj
    refine map_update (F := slF) (x := hd) uPm uInt (hpm52.grew (hg55.trans hg57)) (i64_wf (by omega)) fun w63 hm63 hu63 => ?_
    rw [hnew] at hm63
    refine ⟨⟨k + 1, hw, by omega, hm63, (hu52.trans (hg55.trans hg57).upd).trans hu63⟩, by simp only [hw]; omega⟩
  simp only [decide_eq_false_iff_not] at hge
  have hks : k = V.plan.stores.toNat := by omega
  subst hks
  rw [List.take_of_length_le (by rw [List.length_zip, storesP_len]; omega)] at hpm52
  have hg64' := hg52.trans hg64
  have h64 := h.grew hg64'
  -- the new attempt
  let y : AttX := ⟨b36, (a17, l17, c17), pm, am, hs48, V.newA s m.c⟩
  have hoE64 : Own w64 w.heap.size 3 (Enc.int .i64) a17 l17 c17 F.to := ((((hoE.base hg13.size).grew (hg21.trans (hg24.trans hgm))).grew hg46).upd hu52 fun b hb e => by have := ((hoE.base hg13.size).blk hb).2; have := (hg21.trans hg24).size; omega).grew hg64
  have hD64 := ((hD.base s37).upd hu52 fun b hb e => by have := (hD.feet hb).1; omega).grew hg64
  have hyA : AttAt wT.A wT.I wT.P V.plan w64 w.heap.size y := by
    refine ⟨((hrow37.grew hg46).upd hu52 (by omega)).grew hg64, ?_, ?_, hpm52.grew hg64, ((((MapIs.empty (F := unitF) hala).grew hal37.grew).grew hg46).upd hu52 (by omega)).grew hg64, ⟨by simp only [y]; omega, by simp only [y]; omega, by simp only [y]; omega⟩, by simp only [y]; omega⟩
    · have : (V.newA s m.c).ends = F.to := by unfold WorkV.newA; rw [hF]
      simp only [y]; rw [this]; exact hoE64
    · have : (V.newA s m.c).pairs = dealP V.plan.stores (tableT (bAll V.plan.ops V.plan.agg F.recs).1) := by unfold WorkV.newA; rw [hF]
      simp only [y]; rw [this]; exact hD64
  refine ⟨_, wMap h64, map_update (F := attF) (x := y) uHeld uInt h64.map (i64_wf (by omega)) fun w66 hm66 hu66 => ?_⟩
  have hM := WorkAt.put h hg64' hms (hyA.base hB) hAok (fun b hb => (hyA.foot hb).1) hm66 hu66
  refine (reply_ok (m := m) (kind := 2) (to := 0) hM.at_).use fun u w67 ⟨hv, hg67⟩ => ?_
  subst hv
  refine ⟨_, _, _, _, _, _, _, _, _, _, _, _, _, _, _, rfl, fun w79 hg79 => ?_⟩
  have hE66 := hoE64.upd hu66 fun b hb e => by have := (hoE64.blk hb).1; have := h.map.lt; omega
  have hl4 : F.to.length ≤ 4 := by rw [← hF, f3]; simp only; rw [toV_len]; exact f4
  refine (CloneInt_ok ((hE66.grew hg67).grew hg79).reads (by omega)).use fun u w80 ⟨a82, l82, c82, hv, ho82, hg80⟩ => ?_
  subst hv
  refine ⟨_, _, _, rfl, fun b84 w85 hal85 => ⟨_, rfl, _, _, _, rfl, ?_⟩⟩
  have hg80' := hg67.trans (hg79.trans hg80)
  let x : Msg := ⟨{ V.say m.c 2 0 with ends := F.to }, (a82, l82, c82), (none, 0, 0), (none, 0, 0)⟩
  have hx : MO w80 w66.heap.size x := ⟨ho82.base (hg67.trans hg79).size, Own.nil _ _ _ _, Own.nil _ _ _ _⟩
  exact took_mk hM (hg80'.trans hal85.grew) (one_msg hg80' hx hal85) rfl
theorem pmap_get {p : PlanV} {w : World} {B : Nat} {x : AttX} (h : AttAt wT.A wT.I wT.P p w B x) (hn : x.c.pairs.length = p.stores.toNat) {i : Nat} (hi : i < p.stores.toNat) :
    ∃ hd l, getM ((storesP p).zip x.ps) (1 + p.workers + (i : Int)) = some hd ∧ x.c.pairs[i]? = some l ∧ Own w B 83 Enc.pair hd.1 hd.2.1 hd.2.2 l := by
  have hl : i < x.ps.length := by rw [h.deal.len]; omega
  have h1 := List.getElem?_eq_getElem hl
  have h2 := List.getElem?_eq_getElem (show i < x.c.pairs.length by omega)
  exact ⟨_, _, getM_zip (storesP_nodup p) (storesP_get hi) h1, h2, h.deal.own i _ _ h1 h2⟩
set_option maxHeartbeats 1000000 in
theorem begin_ok {w : World} {B : Nat} {X : WorkX} {V : WorkV} {m : Msg} (h : WA w B X V) (hm : m.At w) :
    CallsW Tryz.prog 46 [.pointer (some ⟨X.p, 0, none⟩), m.val] w (Rets (Took w B X (V.begin m.c))) := by
  refine sx46.ok ?_
  unfold sx46
  have hG := h.ok.good
  have hSt := hG.stores; have hWk := hG.workers
  intro w1 hg1
  refine (wfind_ok (m := m) (h.grew hg1)).use fun u w2 ⟨hg2, hc⟩ => ?_
  have hg2 := hg1.trans hg2
  rcases hc with ⟨hf, rfl⟩ | ⟨x, hx, hnum, hf, rfl⟩
  · refine ⟨_, rfl, fun w6 hg6 => ⟨fun _ => ⟨_, rfl, none, 0, 0, rfl, ?_⟩, fun h => (by simp at h)⟩⟩
    have : V.begin m.c = (V, []) := by unfold WorkV.begin; rw [hf]
    rw [this]; exact took_nil h (hg2.trans hg6)
  refine ⟨_, rfl, fun w6 hg6 => ⟨fun h => (by simp at h), fun _ => ?_⟩⟩
  have hg6 := hg2.trans hg6
  have h6 := h.grew hg6
  obtain ⟨hA, hok, hk⟩ := h6.att hx
  have hb : V.begin m.c = if x.c.begun = true ∨ x.c.ends ≠ m.c.ends then (V, []) else (V.setA m.c.batch { x.c with begun := true }, (List.range V.plan.stores.toNat).map (V.begins m.c x.c)) := by unfold WorkV.begin; rw [hf]
  have c3 : w6.cell? (Addr.add (⟨x.b, 0, none⟩ : Addr) 3) = some (.bool x.c.begun) := by rw [add_mk, hA.row.cell]; rfl
  have c1 : w6.cell? (Addr.add (⟨x.b, 0, none⟩ : Addr) 1) = some (.slice x.e.1 x.e.2.1 x.e.2.2) := by rw [add_mk, hA.row.cell]; rfl
  rw [withSome]
  refine ⟨_, c3, fun hbt => ?_, fun hbf => ?_⟩
  · rw [hb, if_pos (.inl hbt)]
    exact ⟨_, rfl, none, 0, 0, rfl, took_nil h hg6⟩
  rw [withSome]
  refine ⟨_, _, _, c1, (EqInt_ok hA.ends.reads (hm.grew hg6).e (by have := hok.ends; omega)).use fun u w11 ⟨hv, hg11⟩ => ?_⟩
  subst hv
  have hg11' := hg6.trans hg11
  refine ⟨_, rfl, ⟨hg11.block _ hA.row.lt, hg11.block _ hA.row.lt, trivial⟩, fun hne => ?_, fun heq => ?_⟩
  · rw [hb, if_pos (.inr (by simpa using hne))]
    exact ⟨_, rfl, none, 0, 0, rfl, took_nil h hg11'⟩
  have hee : x.c.ends = m.c.ends := by simpa using heq
  rw [hb, if_neg (by simp [hbf, hee])]
  have h11 := h.grew hg11'
  obtain ⟨hA11, -, -⟩ := h11.att hx
  obtain ⟨r1, r2, r3⟩ := hA11.row.set1 (o := 3) (by simp) (.bool true)
  rw [withSome, add_mk, Nat.zero_add]
  refine ⟨r1, ?_⟩
  rintro w16 rfl
  let y : AttX := { x with c := { x.c with begun := true } }
  have hyA : AttAt wT.A wT.I wT.P V.plan (setCells w11 ⟨x.b, 3, none⟩ 0 [.bool true]) B y := by
    refine ⟨r2, hA11.ends.upd r3 fun b hb e => ?_, hA11.deal.upd r3 fun b hb e => ?_, hA11.pmap.upd r3 fun e => ?_, hA11.amap.upd r3 fun e => ?_, hA11.lo, hA11.ne⟩
    · subst e; exact hA11.row.own_ne hA11.ends wTok.AI hb
    · subst e
      obtain ⟨cur, ho⟩ := hA11.deal.obj hb
      have := hA11.row; unfold Row at this; rw [ho] at this
      exact wTok.AP (Obj.cells.inj (Option.some.inj this)).2.1.symm
    · exact hA11.pmap.row_ne hA11.row e.symm
    · exact hA11.amap.row_ne hA11.row e.symm
  have hM := WorkAt.chg h11 hx (y := y) rfl r3 (fun b e => by subst e; exact ⟨.inl rfl, fun e => Row.row_ne hA11.row h11.row (fun e => wTok.WA e.symm) e, Row.own_ne hA11.row h11.ops (fun e => wTok.OA e.symm)⟩) hyA ⟨hok.ends, hok.num, hok.pairs, hok.app⟩ (fun b hb => .inl hb)
  have hM0 := hM.pre hg11'
  generalize setCells w11 ⟨x.b, 3, none⟩ 0 [.bool true] = w16 at hM hM0 hyA r2 r3
  refine (stores_ok hM.at_).use fun u w17 ⟨a19, l19, c19, hv, ho19, hg17⟩ => ?_
  subst hv
  have hl19 : l19 = V.plan.stores.toNat := by rw [ho19.len, storesP_len]; rfl
  refine ⟨_, _, _, rfl, fun a n c i w' => ∃ (k : Nat) (xs : List Msg), i = k ∧ k ≤ V.plan.stores.toNat ∧ MsgsOwn w' w17.heap.size a n c xs ∧ xs.map (·.c) = (List.range k).map (V.begins m.c x.c) ∧ Grew w17 w', fun _ _ _ i _ => 9 - i.toNat, ⟨0, [], rfl, Nat.zero_le _, MsgsOwn.nil _ _, rfl, Grew.refl _⟩, ?_⟩
  rintro a22 l22 c22 n23 w24 ⟨k, xs, rfl, hkk, hO, hxs, hg24⟩
  have hxl : xs.length = k := by have := congrArg List.length hxs; simpa using this
  refine ⟨fun hlt => ?_, fun hge => ?_⟩
  · simp only [decide_eq_true_eq] at hlt
    have hks : k < V.plan.stores.toNat := by omega
    have hw : IntKind.i64.wrap ((k : Int) + 1) = ((k + 1 : Nat) : Int) := by rw [IntKind.wrap_i64]; omega
    obtain ⟨d, nd, hd, hnd, hndc⟩ := (ho19.grew hg24).reads.at0 (k := k) (by omega)
    rw [show (V.setA m.c.batch y.c).plan = V.plan from rfl, storesP_get hks] at hnd
    cases hnd
    rw [hd, withSome]
    have h24 := hM.at_.grew (hg17.trans hg24)
    refine ⟨⟨by omega, by omega⟩, _, i64cell hndc, (reply_ok (m := m) (kind := 4) (to := 1 + V.plan.workers + (k : Int)) h24).use fun u w27 ⟨hv, hg27⟩ => ?_⟩
    subst hv
    refine ⟨_, _, _, _, _, _, _, _, _, _, _, _, _, _, _, rfl, fun w39 hg39 => ?_⟩
    have hgk := hg27.trans hg39
    have hA39 := (hyA.grew (hg17.trans hg24)).grew hgk
    have c2 : w39.cell? (Addr.add (⟨x.b, 0, none⟩ : Addr) 2) = some (.map (some x.pm)) := by rw [add_mk, hA39.row.cell]; rfl
    obtain ⟨hdr, pl, hgt, hpl, hpo⟩ := pmap_get hA39 hok.num hks
    have hpl' := hok.pairs _ (List.mem_of_getElem? hpl)
    rw [withSome]
    refine ⟨_, c2, map_lookup (F := slF) uPm uInt zSlP hA39.pmap ?_⟩
    rw [hgt]
    refine ⟨_, _, _, rfl, (FKeys_ok hpo.reads (by simp only [maxLen]; omega) (by omega)).use fun u w45 ⟨a47, l47, c47, hv, ho47, hg45⟩ => ?_⟩
    subst hv
    refine ⟨_, _, _, rfl, fun b49 w50 hal50 => ?_⟩
    let z : Msg := ⟨V.begins m.c x.c k, (none, 0, 0), (a47, l47, c47), (none, 0, 0)⟩
    have hzk : (V.begins m.c x.c k).keys = pl.map (·.key) := by unfold WorkV.begins; simp only; rw [List.getD_eq_getElem?_getD, hpl]; rfl
    have hgz := hg24.trans (hgk.trans hg45)
    have hO45 := hO.grew (hgk.trans hg45)
    have hs := hgz.size
    have hzO : MO w45 w17.heap.size z := by
      refine ⟨Own.nil _ _ _ _, ?_, Own.nil _ _ _ _⟩
      simp only [z]; rw [hzk]; exact ho47.base (hg24.trans hgk).size
    refine append_new (l2 := [z]) elMsg hO45.own hal50 (by simp [Enc.msg, z, Msg.vals, WorkV.begins, WorkV.say]; rfl) rfl hs (by simp only [maxLen, List.length_singleton]; omega) (by simp only [List.length_singleton]; omega) ?_
    rintro v52 w51 ⟨a53, l53, c53, rfl, ho53, hu53, hb53⟩
    have hother : ∀ v : Msg, MO w45 w17.heap.size v → MO w51 w17.heap.size v := fun v hv => hv.upd hu53 fun b hb hb' => by
      obtain ⟨cur, t, ht, ho⟩ := hv.obj hb
      obtain ⟨cur2, ho2⟩ := hO45.own.objC hb'
      rw [ho] at ho2
      have := (Obj.cells.inj (Option.some.inj ho2)).2.1
      rcases ht with rfl | rfl | rfl <;> revert this <;> decide
    refine ⟨_, _, _, rfl, ⟨k + 1, xs ++ [z], hw, by omega, ⟨ho53, fun v hv => ?_⟩, ?_, ?_⟩, by simp only [hw]; omega⟩
    · rcases List.mem_append.1 hv with hv | hv
      · exact hother v (hO45.each v hv)
      · simp at hv; subst hv; exact hother _ hzO
    · rw [List.map_append, hxs, List.range_succ, List.map_append]; rfl
    · exact hgz.then_own hu53 fun b hb => (hO45.own.blk hb).1
  · simp only [decide_eq_false_iff_not] at hge
    have : k = V.plan.stores.toNat := by omega
    subst this
    exact ⟨_, rfl, _, _, _, rfl, took_mk hM0 (hg17.trans hg24) (hO.base hg17.size) hxs⟩
theorem unit_addN (l : List Int) (k : Int) : setM (l.map fun k => (k, ())) k () = (addN l k).map fun k => (k, ()) := by rw [setM_unit]; rfl
theorem addN_ok {p : PlanV} {l : List Int} {k : Int} (h : l.Nodup ∧ ∀ k ∈ l, k ∈ storesP p) (hk : k ∈ storesP p) : (addN l k).Nodup ∧ ∀ j ∈ addN l k, j ∈ storesP p := by
  unfold addN
  split
  · exact h
  · rename_i hn
    refine ⟨List.nodup_append.2 ⟨h.1, by simp, fun a ha b hb e => hn (by simp at hb; rw [← hb, ← e]; exact ha)⟩, fun j hj => ?_⟩
    rcases List.mem_append.1 hj with hj | hj
    · exact h.2 j hj
    · simp at hj; subst hj; exact hk
theorem nodup_len {p : PlanV} {l : List Int} (h : l.Nodup ∧ ∀ k ∈ l, k ∈ storesP p) : l.length ≤ p.stores.toNat := by
  rw [← storesP_len p]
  exact List.Nodup.length_le_of_subset h.1 h.2
set_option maxHeartbeats 1000000 in
theorem answer_ok {w : World} {B : Nat} {X : WorkX} {V : WorkV} {m : Msg} (h : WA w B X V) (hm : m.At w) (hk3 : kindP V.plan m.c.frm = 3) (hb40 : 1 ≤ m.c.batch ∧ m.c.batch ≤ 1099511627776) :
    CallsW Tryz.prog 47 [.pointer (some ⟨X.p, 0, none⟩), m.val] w (Rets (Took w B X (V.answer m.c))) := by
  refine sx47.ok ?_
  unfold sx47
  have hG := h.ok.good
  have hSt := hG.stores; have hWk := hG.workers
  obtain ⟨si, hsi, hfrm⟩ := kindP_store hG hk3
  have hmem : m.c.frm ∈ storesP V.plan := storesP_mem.2 ⟨si, hsi, hfrm⟩
  intro w1 hg1
  refine (wfind_ok (m := m) (h.grew hg1)).use fun u w2 ⟨hg2, hc⟩ => ?_
  have hg2 := hg1.trans hg2
  rcases hc with ⟨hf, rfl⟩ | ⟨x, hx, hnum, hf, rfl⟩
  · refine ⟨_, rfl, fun b w' => b = true ∧ w' = w2, ⟨fun _ => ⟨rfl, rfl⟩, fun h => (by simp at h)⟩, ?_⟩
    rintro b w10 ⟨rfl, rfl⟩
    refine ⟨fun _ => ⟨_, rfl, none, 0, 0, rfl, ?_⟩, fun h => (by cases h)⟩
    have : V.answer m.c = (V, []) := by unfold WorkV.answer; rw [hf]
    rw [this]; exact took_nil h hg2
  have h2 := h.grew hg2
  obtain ⟨hA, hok, hk⟩ := h2.att hx
  have c3 : w2.cell? (Addr.add (⟨x.b, 0, none⟩ : Addr) 3) = some (.bool x.c.begun) := by rw [add_mk, hA.row.cell]; rfl
  refine ⟨_, rfl, fun b w' => b = !x.c.begun ∧ w' = w2, ⟨fun h => (by simp at h), fun _ => ?_⟩, ?_⟩
  · rw [withSome]; exact ⟨_, c3, rfl, rfl⟩
  rintro b w10 ⟨rfl, rfl⟩
  refine ⟨fun hbt => ?_, fun hbf => ?_⟩
  · have hb0 : x.c.begun = false := by simpa using hbt
    have : V.answer m.c = (V, []) := by unfold WorkV.answer; rw [hf]; simp only; rw [if_pos hb0]
    rw [this]; exact ⟨_, rfl, none, 0, 0, rfl, took_nil h hg2⟩
  have hb1 : ¬ x.c.begun = false := by simpa using hbf
  have hans : V.answer m.c = if m.c.code ≠ 0 then ({ V with held := delM V.held m.c.batch }, []) else if m.c.kind = 5 then (V, [{ V.say m.c 6 m.c.frm with pairs := x.c.pairs.getD (m.c.frm - 1 - V.plan.workers).toNat [] }]) else
      (V.setA m.c.batch { x.c with applied := addN x.c.applied m.c.frm }, if ((addN x.c.applied m.c.frm).length : Int) < V.plan.stores then [] else [{ V.say m.c 8 0 with ends := x.c.ends }]) := by
    unfold WorkV.answer; rw [hf]; simp only; rw [if_neg hb1]
  rw [hans]
  refine ⟨fun hcode w11 hg11 => ?_, fun hcode => ⟨fun h5 => ?_, fun h5 w40 hg40 => ?_⟩⟩
  · have hcode : m.c.code ≠ 0 := by simpa using hcode
    rw [if_pos hcode]
    have hg11 := hg2.trans hg11
    have h11 := h.grew hg11
    refine ⟨_, wMap h11, map_delete (F := attF) uHeld uInt h11.map fun w13 hm13 hu13 => ⟨rfl, _, rfl, none, 0, 0, rfl, ?_⟩⟩
    exact took_mk (WorkAt.del h hg11 hm13 hu13) (Grew.refl _) (MsgsOwn.nil _ _) rfl
  · have hcode : ¬ m.c.code ≠ 0 := by simpa using hcode
    have h5 : m.c.kind = 5 := by simpa using h5
    rw [if_neg hcode, if_pos h5]
    refine (reply_ok (m := m) (kind := 6) (to := m.c.frm) h2).use fun u w15 ⟨hv, hg15⟩ => ?_
    subst hv
    refine ⟨_, _, _, _, _, _, _, _, _, _, _, _, _, _, _, rfl, fun w27 hg27 w28 hg28 => ?_⟩
    have hgk := hg15.trans (hg27.trans hg28)
    have hA28 := hA.grew hgk
    have c2 : w28.cell? (Addr.add (⟨x.b, 0, none⟩ : Addr) 2) = some (.map (some x.pm)) := by rw [add_mk, hA28.row.cell]; rfl
    obtain ⟨hdr, pl, hgt, hpl, hpo⟩ := pmap_get hA28 hok.num hsi
    rw [← hfrm] at hgt
    have hpl' := hok.pairs _ (List.mem_of_getElem? hpl)
    rw [withSome]
    refine ⟨_, c2, map_lookup (F := slF) uPm uInt zSlP hA28.pmap ?_⟩
    rw [hgt]
    refine ⟨_, _, _, rfl, (ClonePair_ok hpo.reads (by omega)).use fun u w34 ⟨a36, l36, c36, hv, ho36, hg36⟩ => ?_⟩
    subst hv
    refine ⟨_, _, _, rfl, fun b38 w39 hal39 => ⟨_, rfl, _, _, _, rfl, ?_⟩⟩
    have hidx : (m.c.frm - 1 - V.plan.workers).toNat = si := by omega
    let z : Msg := ⟨{ V.say m.c 6 m.c.frm with pairs := pl }, (none, 0, 0), (none, 0, 0), (a36, l36, c36)⟩
    have hz : MO w34 w10.heap.size z := ⟨Own.nil _ _ _ _, Own.nil _ _ _ _, ho36.base hgk.size⟩
    refine took_mk (WorkMoves.still h hg2) ((hgk.trans hg36).trans hal39.grew) (one_msg (hgk.trans hg36) hz hal39) ?_
    rw [hidx, List.getD_eq_getElem?_getD, hpl]; rfl
  · have hcode : ¬ m.c.code ≠ 0 := by simpa using hcode
    have h5 : ¬ m.c.kind = 5 := by simpa using h5
    rw [if_neg hcode, if_neg h5]
    have hg40' := hg2.trans hg40
    have h40 := h.grew hg40'
    have hA40 := hA.grew hg40
    have c4 : w40.cell? (Addr.add (⟨x.b, 0, none⟩ : Addr) 4) = some (.map (some x.am)) := by rw [add_mk, hA40.row.cell]; rfl
    rw [withSome]
    refine ⟨_, c4, map_update (F := unitF) (x := ()) uAm uInt hA40.amap (i64_wf (by omega)) fun w43 hm43 hu43 w44 hg44 => ?_⟩
    rw [unit_addN] at hm43
    have hapok := addN_ok hok.app hmem
    have haplen := nodup_len hapok
    let y : AttX := { x with c := { x.c with applied := addN x.c.applied m.c.frm } }
    have hyA : AttAt wT.A wT.I wT.P V.plan w43 B y := by
      refine ⟨hA40.row.upd hu43 fun e => hA40.amap.row_ne hA40.row e, hA40.ends.upd hu43 fun b hb e => ?_, hA40.deal.upd hu43 fun b hb e => ?_, hA40.pmap.upd hu43 hA40.ne, hm43, hA40.lo, hA40.ne⟩
      · subst e; exact hA40.amap.own_ne hA40.ends hb
      · subst e
        obtain ⟨cur, ho⟩ := hA40.deal.obj hb
        obtain ⟨es, ck, hmp, -⟩ := hA40.amap
        rw [ho] at hmp; cases hmp
    have hM := (WorkAt.chg h40 hx (y := y) rfl hu43 (fun b e => by subst e; exact ⟨.inr (.inr (.inl rfl)), fun e => hA40.amap.row_ne h40.row e.symm, hA40.amap.own_ne h40.ops⟩) hyA ⟨hok.ends, hok.num, hok.pairs, hapok⟩ (fun b hb => .inl hb)).pre hg40'
    have hy44 := hyA.grew hg44
    have h44 := hM.at_.grew hg44
    have c4' : w44.cell? (Addr.add (⟨x.b, 0, none⟩ : Addr) 4) = some (.map (some x.am)) := by rw [add_mk, hy44.row.cell]; rfl
    have cS : w44.cell? ⟨X.p, 1, none⟩ = some (.int .i64 V.plan.stores) := by
      have := h44.row
      rw [this.cell]; rfl
    rw [withSome]
    refine ⟨_, c4', _, cS, map_len uAm hy44.amap ?_⟩
    refine ⟨_, rfl, ⟨rfl, rfl, trivial⟩, fun hlt => ?_, fun hge => ?_⟩
    · have hlt : ((addN x.c.applied m.c.frm).length : Int) < V.plan.stores := by simpa [y] using hlt
      rw [if_pos hlt]
      exact ⟨_, rfl, none, 0, 0, rfl, took_mk hM hg44 (MsgsOwn.nil _ _) rfl⟩
    · have hge : ¬ ((addN x.c.applied m.c.frm).length : Int) < V.plan.stores := by simpa [y] using hge
      rw [if_neg hge]
      refine (reply_ok (m := m) (kind := 8) (to := 0) h44).use fun u w51 ⟨hv, hg51⟩ => ?_
      subst hv
      refine ⟨_, _, _, _, _, _, _, _, _, _, _, _, _, _, _, rfl, fun w63 hg63 => ?_⟩
      have hgk := hg44.trans (hg51.trans hg63)
      have hy63 := hyA.grew hgk
      have c1 : w63.cell? (Addr.add (⟨x.b, 0, none⟩ : Addr) 1) = some (.slice x.e.1 x.e.2.1 x.e.2.2) := by rw [add_mk, hy63.row.cell]; rfl
      rw [withSome]
      have he4 := hok.ends.1
      refine ⟨_, _, _, c1, (CloneInt_ok hy63.ends.reads (by show x.c.ends.length * 8 ≤ 140737488355328; omega)).use fun u w66 ⟨a68, l68, c68, hv, ho68, hg66⟩ => ?_⟩
      subst hv
      refine ⟨_, _, _, rfl, fun b70 w71 hal71 => ⟨_, rfl, _, _, _, rfl, ?_⟩⟩
      let z : Msg := ⟨{ V.say m.c 8 0 with ends := x.c.ends }, (a68, l68, c68), (none, 0, 0), (none, 0, 0)⟩
      have hz : MO w66 w43.heap.size z := ⟨ho68.base hgk.size, Own.nil _ _ _ _, Own.nil _ _ _ _⟩
      exact took_mk hM ((hgk.trans hg66).trans hal71.grew) (one_msg (hgk.trans hg66) hz hal71) rfl
def TakeR (w : World) (B : Nat) (X : WorkX) (r : TookV) (u : Value) (w' : World) : Prop := ∃ a n c, u = .tuple #[.slice a n c, .int .i64 r.e] ∧ TookR w B X r.w r.l a n c w'
theorem take_of {w w1 w' : World} {B : Nat} {X : WorkX} {r : WorkV × List MsgV} {u : Value} (h : Took w1 B X r u w') (hg : Grew w w1) : ∃ a n c, u = .slice a n c ∧ Rets (TakeR w B X (.of r)) (.returned (.tuple #[.slice a n c, .int .i64 0])) w' := by
  obtain ⟨a, n, c, hu, hT⟩ := h
  exact ⟨a, n, c, hu, _, rfl, a, n, c, rfl, hT.pre hg⟩
theorem WTake_ok {w : World} {B B2 : Nat} {X : WorkX} {V : WorkV} {m : Msg} {sx : SrcX} {s : SrcV} (h : WA w B X V) (hs : SrA w B2 sx s) (hm : m.At w) (hl1 : m.c.ends.length ≤ 9223372036854775806) (hl2 : m.c.keys.length ≤ 9223372036854775806) (hl3 : m.c.pairs.length ≤ 9223372036854775806) (hB : B ≤ w.heap.size) :
    CallsW Tryz.prog 13 [.pointer (some ⟨X.p, 0, none⟩), .pointer (some ⟨sx.p, 0, none⟩), m.val] w (Rets (TakeR w B X (V.take s m.c))) := by
  refine sx13.ok ?_
  unfold sx13
  intro w1 hg1
  refine (MSound_ok (x := m) (hm.grew hg1) hl1 hl2 hl3).use fun u w2 ⟨hv, hg2⟩ => ?_
  subst hv
  have hg2 := hg1.trans hg2
  have nilT : ∀ {y : World} {e : Int}, V.take s m.c = ⟨V, [], e⟩ → Grew w y → Rets (TakeR w B X (V.take s m.c)) (.returned (.tuple #[.slice none 0 0, .int .i64 e])) y := fun he hg => ⟨_, rfl, none, 0, 0, by rw [he], by rw [he]; exact took_nil h hg⟩
  refine ⟨_, rfl, fun hs0 => nilT ?_ hg2, fun hs1 => ?_⟩
  · have : soundMsg m.c = false := by simpa using hs0
    unfold WorkV.take; rw [if_pos this]
  have hs1 : soundMsg m.c = true := by simpa using hs1
  have hsnd := (soundMsg_iff _).1 hs1
  have hbat := hsnd.2.2.2.1
  have e1 : V.take s m.c = if m.c.to ≠ V.node then ⟨V, [], 170⟩ else if m.c.kind = 1 ∧ kindP V.plan m.c.frm = 1 then .of (V.assign s m.c) else if m.c.kind = 3 ∧ kindP V.plan m.c.frm = 1 then .of (V.begin m.c) else if (m.c.kind = 5 ∨ m.c.kind = 7) ∧ kindP V.plan m.c.frm = 3 then .of (V.answer m.c) else ⟨V, [], 0⟩ := by
    unfold WorkV.take; rw [if_neg (by rw [hs1]; simp)]
  refine ⟨_, wNode (h.grew hg2), fun w7 hg7 => ⟨fun hto => nilT ?_ (hg2.trans hg7), fun hto w8 hg8 => ?_⟩⟩
  · rw [e1, if_pos (by simpa using hto)]
  have hto : ¬ m.c.to ≠ V.node := by simpa using hto
  rw [if_neg hto] at e1
  have hg8 := hg2.trans (hg7.trans hg8)
  have h8 := h.grew hg8
  obtain ⟨hpA, hpC⟩ := wPlan h8
  refine ⟨_, _, _, _, _, _, _, _, _, _, hpC, (PKind_ok (x := plX X V) (n := m.c.frm) hpA).use fun u w17 ⟨hv, hg17⟩ => ?_⟩
  subst hv
  rw [show (plX X V).c = V.plan from rfl]
  have hg17 := hg8.trans hg17
  have h17 := h.grew hg17
  refine ⟨_, rfl, fun b w' => b = decide (m.c.kind = 1 ∧ kindP V.plan m.c.frm = 1) ∧ w' = w17, ⟨fun h1 => ?_, fun h1 => ?_⟩, ?_⟩
  · have h1 : m.c.kind = 1 := by simpa using h1
    refine ⟨?_, rfl⟩; simp only [h1, true_and]; rfl
  · have h1 : ¬ m.c.kind = 1 := by simpa using h1
    refine ⟨?_, rfl⟩; simp [h1]
  rintro b w23 ⟨rfl, rfl⟩
  refine ⟨fun ht => ?_, fun hf1 => ?_⟩
  · have ht := of_decide_eq_true ht
    rw [if_pos ht] at e1
    refine (assign_ok (m := m) h17 (hs.grew hg17) (hm.grew hg17) hbat (Nat.le_trans hB hg17.size)).use fun u w24 hT => ?_
    obtain ⟨a, n, c, hu, hR⟩ := take_of hT hg17
    rw [e1]; exact ⟨a, n, c, hu, hR⟩
  have hf1 := of_decide_eq_false hf1
  rw [if_neg hf1] at e1
  refine ⟨fun b w' => b = decide (m.c.kind = 3 ∧ kindP V.plan m.c.frm = 1) ∧ w' = w23, ⟨fun h1 => ?_, fun h1 => ?_⟩, ?_⟩
  · have h1 : m.c.kind = 3 := by simpa using h1
    refine ⟨?_, rfl⟩; simp only [h1, true_and]; rfl
  · have h1 : ¬ m.c.kind = 3 := by simpa using h1
    refine ⟨?_, rfl⟩; simp [h1]
  rintro b w30 ⟨rfl, rfl⟩
  refine ⟨fun ht => ?_, fun hf2 => ?_⟩
  · have ht := of_decide_eq_true ht
    rw [if_pos ht] at e1
    refine (begin_ok (m := m) h17 (hm.grew hg17)).use fun u w24 hT => ?_
    obtain ⟨a, n, c, hu, hR⟩ := take_of hT hg17
    rw [e1]; exact ⟨a, n, c, hu, hR⟩
  have hf2 := of_decide_eq_false hf2
  rw [if_neg hf2] at e1
  have ans : kindP V.plan m.c.frm = 3 → (m.c.kind = 5 ∨ m.c.kind = 7) → CallsW Tryz.prog 47 [.pointer (some ⟨X.p, 0, none⟩), m.val] w30 (RetR (Rets (TakeR w B X (V.take s m.c))) fun u w' => ∃ a n c, u = .slice a n c ∧ Rets (TakeR w B X (V.take s m.c)) (.returned (.tuple #[.slice a n c, .int .i64 0])) w') := fun h3 hk => by
    rw [if_pos ⟨hk, h3⟩] at e1
    refine (answer_ok (m := m) h17 (hm.grew hg17) h3 hbat).use fun u w24 hT => ?_
    obtain ⟨a, n, c, hu, hR⟩ := take_of hT hg17
    rw [e1]; exact ⟨a, n, c, hu, hR⟩
  have no : ¬ ((m.c.kind = 5 ∨ m.c.kind = 7) ∧ kindP V.plan m.c.frm = 3) → Rets (TakeR w B X (V.take s m.c)) (.returned (.tuple #[.slice none 0 0, .int .i64 0])) w30 := fun hn => nilT (by rw [e1, if_neg hn]) hg17
  refine ⟨fun h5 => ⟨fun h3 => ans (by simpa using h3) (.inl (by simpa using h5)), fun h3 => no fun hh => ?_⟩, fun h5 => ⟨fun h7 => ⟨fun h3 => ans (by simpa using h3) (.inr (by simpa using h7)), fun h3 => no fun hh => ?_⟩, fun h7 => no fun hh => ?_⟩⟩
  · have : ¬ kindP V.plan m.c.frm = 3 := by simpa using h3
    exact this hh.2
  · have : ¬ kindP V.plan m.c.frm = 3 := by simpa using h3
    exact this hh.2
  · have h5 : ¬ m.c.kind = 5 := by simpa using h5
    have h7 : ¬ m.c.kind = 7 := by simpa using h7
    exact hh.1.elim h5 h7
end Go.Proofs.YtcpkneemhfnanaaGreat
