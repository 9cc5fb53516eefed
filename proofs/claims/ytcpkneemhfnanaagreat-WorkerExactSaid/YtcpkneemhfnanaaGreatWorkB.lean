/- What a worker hands back to a message. Conditions: none. -/
import Derived.Test.YtcpkneemhfnanaaGreatProg
import Derived.Test.YtcpkneemhfnanaaGreatWorkA
import Derived.Test.YtcpkneemhfnanaaGreatFoldT
import Derived.Test.YtcpkneemhfnanaaGreatSxWo
namespace Go.Proofs.YtcpkneemhfnanaaGreat
open Go.Sx
set_option maxRecDepth 100000
set_option linter.unusedVariables false
set_option linter.unusedSimpArgs false
def sx93 (s : Option Addr) (s_n s_c : Nat) (R : Ending → World → Prop) (w : World) : Prop :=
 ifB (Option.isNone s) (R (.returned (.slice none 0 0)) w) (∀ b1 w2, Ag w w2 b1 (.cells #[] 83) → SemW Tryz.prog (Builtin.append_ #[46, 46] 46 #[.slice (some ⟨b1, 0, none⟩) 0 0, .slice s s_n s_c]) (fun u4 w3 => ∃ a5 l5 c5, u4 = .slice a5 l5 c5 ∧ R (.returned (.slice a5 l5 c5)) w3) w2)
theorem sx93.ok {s : Option Addr} {s_n s_c : Nat} {R : Ending → World → Prop} {w : World} (h : sx93 s s_n s_c R w) : Aa Tryz.prog 93 [.slice s s_n s_c] w R :=
 okOf { sem := [7] } mix Tryz.func93 (by kernel_rfl) (by kernel_rfl) (by kernel_rfl) h
def sx92 (s1 : Option Addr) (s1_n s1_c : Nat) (s2 : Option Addr) (s2_n s2_c : Nat) (R : Ending → World → Prop) (w : World) : Prop :=
 ifB (((s1_n : Nat) : Int) != ((s2_n : Nat) : Int)) (R (.returned (.bool false)) w) (∃ (I1 : Int → World → Prop) (m1 : Int → World → Nat), I1 0 w ∧ ∀ n2 w3, I1 n2 w3 → ifB (decide (n2 < ((s1_n : Nat) : Int))) (Ab s1 (fun d4 => (0 ≤ n2 ∧ n2 < (s1_n : Nat)) ∧ ∃ n5, w3.cell? (Addr.add d4 (n2.toNat * 1)) = some (.int .i64 n5) ∧ Ab s2 (fun d6 => (0 ≤ n2 ∧ n2 < (s2_n : Nat)) ∧ ∃ n7, w3.cell? (Addr.add d6 (n2.toNat * 1)) = some (.int .i64 n7) ∧ ∀ w8, Grew w3 w8 → ifB (n5 != n7) (R (.returned (.bool false)) w8) ((I1 (IntKind.i64.wrap (n2 + 1)) w8 ∧ m1 (IntKind.i64.wrap (n2 + 1)) w8 < m1 n2 w3))))) (R (.returned (.bool true)) w3))
theorem sx92.ok {s1 : Option Addr} {s1_n s1_c : Nat} {s2 : Option Addr} {s2_n s2_c : Nat} {R : Ending → World → Prop} {w : World} (h : sx92 s1 s1_n s1_c s2 s2_n s2_c R w) : Aa Tryz.prog 92 [.slice s1 s1_n s1_c, .slice s2 s2_n s2_c] w R :=
 okOf { loops := [(4, { slots := [(13, .int .i64)], cells := [] })] } mix Tryz.func92 (by kernel_rfl) (by kernel_rfl) (by kernel_rfl) h
def sx45 (d i : Nat) (p2_0 p2_1 p2_2 p2_3 p2_4 p2_5 : Int) (p2_6 : Option Addr) (p2_6_n p2_6_c : Nat) (p2_7 : Option Addr) (p2_7_n p2_7_c : Nat) (p2_8 : Option Addr) (p2_8_n p2_8_c : Nat) (R : Ending → World → Prop) (w : World) : Prop :=
  ∀ w1, Grew w w1 → ∃ J2 : World → Prop, (∀ w3, Grew w1 w3 → ∃ m4, w3.cell? ⟨d, 9, none⟩ = some (.map m4) ∧ SemW Tryz.prog (Instr.lookup 102 (.map m4) (.int .i64 p2_3) false) (fun u6 w5 => ∃ p7, u6 = .pointer p7 ∧ ifB (!(Option.isNone p7)) (Ab p7 (fun d8 => ∃ n9, w5.cell? d8 = some (.int .i64 n9) ∧ ∀ w10, Grew w5 w10 → ifB (decide (n9 ≥ p2_4)) (R (.returned (.slice none 0 0)) w10) (J2 w10))) (∀ w11, Grew w5 w11 → J2 w11)) w3) ∧ ∀ w12, J2 w12 → ∀ w13, Grew w12 w13 → ∃ n14, w13.cell? ⟨d, 5, none⟩ = some (.int .i64 n14) ∧ Aa Tryz.prog 34 [.pointer (some ⟨i, 0, none⟩), .slice p2_6 p2_6_n p2_6_c, .int .i64 n14] w13 (RetR R fun u16 w15 => ∃ a17 l17 c17 a18 l18 c18 n19, u16 = .tuple #[.slice a17 l17 c17, .slice a18 l18 c18, .int .i64 n19] ∧ ifB (n19 != 0) (R (.returned (.slice none 0 0)) w15) (∀ w21, Grew w15 w21 → ∃ a22 l22 c22, w21.cell? ⟨d, 3, none⟩ = some (.slice a22 l22 c22) ∧ ∃ n23, w21.cell? ⟨d, 4, none⟩ = some (.int .i64 n23) ∧ Aa Tryz.prog 33 [.slice a22 l22 c22, .int .i64 n23, .slice a18 l18 c18] w21 (RetR R fun u25 w24 => ∃ a26 l26 c26 n27 n28, u25 = .tuple #[.slice a26 l26 c26, .int .i64 n27, .int .i64 n28] ∧ ifB (n28 != 0) (R (.returned (.slice none 0 0)) w24) (SemW Tryz.prog (Instr.makeMap 137 none) (fun u31 w30 => ∃ m32, u31 = .map m32 ∧ SemW Tryz.prog (Instr.makeMap 138 none) (fun u34 w33 => ∃ m35, u34 = .map m35 ∧ ∀ b36 w37, Ag w33 w37 b36 (.cells [.int .i64 p2_4, .slice a17 l17 c17, .map m32, .bool false, .map m35].toArray 140) → ∃ n38 n39 n40 a41 l41 c41 n42 n43 n44 n45, Ae w37 ⟨d, 0, none⟩ 0 [.int .i64 n38, .int .i64 n39, .int .i64 n40, .slice a41 l41 c41, .int .i64 n42, .int .i64 n43, .int .i64 n44, .int .i64 n45] ∧ Aa Tryz.prog 88 [.agg #[.int .i64 n38, .int .i64 n39, .int .i64 n40, .slice a41 l41 c41, .int .i64 n42, .int .i64 n43, .int .i64 n44, .int .i64 n45], .slice a26 l26 c26] w37 (RetR R fun u47 w46 => ∃ a48 l48 c48, u47 = .slice a48 l48 c48 ∧ ∃ (I50 : Int → World → Prop) (m50 : Int → World → Nat), I50 0 w46 ∧ ∀ n51 w52, I50 n51 w52 → ifB (decide (n51 < ((l48 : Nat) : Int))) (Ab a48 (fun d53 => (0 ≤ n51 ∧ n51 < (l48 : Nat)) ∧ ∃ a54 l54 c54, w52.cell? (Addr.add d53 (n51.toNat * 1)) = some (.slice a54 l54 c54) ∧ ∀ w55, Grew w52 w55 → ∃ m56, w55.cell? ⟨b36, 2, none⟩ = some (.map m56) ∧ Aa Tryz.prog 89 [.pointer (some ⟨d, 0, none⟩)] w55 (RetR R fun u58 w57 => ∃ a59 l59 c59, u58 = .slice a59 l59 c59 ∧ Ad w55 w57 [⟨b36, 2, none⟩] ∧ Ab a59 (fun d61 => (0 ≤ n51 ∧ n51 < (l59 : Nat)) ∧ ∃ n62, w57.cell? (Addr.add d61 (n51.toNat * 1)) = some (.int .i64 n62) ∧ SemW Tryz.prog (Instr.mapUpdate 137 (.map m56) (.int .i64 n62) (.slice a54 l54 c54)) (fun _ w63 => (I50 (IntKind.i64.wrap (n51 + 1)) w63 ∧ m50 (IntKind.i64.wrap (n51 + 1)) w63 < m50 n51 w52)) w57)))) (∀ w64, Grew w52 w64 → ∃ m65, w64.cell? ⟨d, 9, none⟩ = some (.map m65) ∧ SemW Tryz.prog (Instr.mapUpdate 102 (.map m65) (.int .i64 p2_3) (.pointer (some ⟨b36, 0, none⟩))) (fun _ w66 => Aa Tryz.prog 90 [.pointer (some ⟨d, 0, none⟩), .agg #[.int .i64
 p2_0, .int .i64 p2_1, .int .i64 p2_2, .int .i64 p2_3, .int .i64 p2_4, .int .i64 p2_5, .slice p2_6 p2_6_n p2_6_c, .slice p2_7 p2_7_n p2_7_c, .slice p2_8 p2_8_n p2_8_c], .int .i64 2, .int .i64 0] w66 (RetR R fun u68 w67 => ∃ n69 n70 n71 n72 n73 n74 a75 l75 c75 a76 l76 c76 a77 l77 c77, u68 = .agg #[.int .i64 n69, .int .i64 n70, .int .i64 n71, .int .i64 n72, .int .i64 n73, .int .i64 n74, .slice a75 l75 c75, .slice a76 l76 c76, .slice a77 l77 c77] ∧ ∀ w79, Grew w67 w79 → Aa Tryz.prog 60 [.slice a17 l17 c17] w79 (RetR R fun u81 w80 => ∃ a82 l82 c82, u81 = .slice a82 l82 c82 ∧ ∀ b84 w85, Ag w80 w85 b84 (.cells #[.int .i64 n69, .int .i64 n70, .int .i64 n71, .int .i64 n72, .int .i64 n73, .int .i64 n74, .slice a82 l82 c82, .slice a76 l76 c76, .slice a77 l77 c77] 48) → R (.returned (.slice (some ⟨b84, 0, none⟩) 1 1)) w85))) w64))) w30) w24))))
theorem sx45.ok {d i : Nat} {p2_0 p2_1 p2_2 p2_3 p2_4 p2_5 : Int} {p2_6 : Option Addr} {p2_6_n p2_6_c : Nat} {p2_7 : Option Addr} {p2_7_n p2_7_c : Nat} {p2_8 : Option Addr} {p2_8_n p2_8_c : Nat} {R : Ending → World → Prop} {w : World} (h : sx45 d i p2_0 p2_1 p2_2 p2_3 p2_4 p2_5 p2_6 p2_6_n p2_6_c p2_7 p2_7_n p2_7_c p2_8 p2_8_n p2_8_c R w) : Aa Tryz.prog 45 [.pointer (some ⟨d, 0, none⟩), .pointer (some ⟨i, 0, none⟩), .agg #[.int .i64 p2_0, .int .i64 p2_1, .int .i64 p2_2, .int .i64 p2_3, .int .i64 p2_4, .int .i64 p2_5, .slice p2_6 p2_6_n p2_6_c, .slice p2_7 p2_7_n p2_7_c, .slice p2_8 p2_8_n p2_8_c]] w R :=
 okOf { locals := [5, 16], sem := [23, 71, 72], draws := [(1, { order := (ol [0,1,2,3,4,5,6,7] .nil), bars := [6] }), (4, { order := (ol [0,1,2,3,4,5,6,7,8,9,10,11,12,13,14,15] .nil), bars := [8] }), (7, { order := (ol [0,1,2,3,4,5,6,7,8,9,10,11,12,13,14,15,16,17,18] .nil), bars := [11] }), (14, { order := (ol [0,1,2,3,4,6,9,5,7,8,10] .nil), bars := [10] }), (16, { order := (ol [0,1,2,3,4,5,6,7] .nil), bars := [7] })], loops := [(12, { slots := [(82, .int .i64)], cells := [] })], cuts := [(4, { slots := [], cells := [] })] } mix Tryz.func45 (by kernel_rfl) (by kernel_rfl) (by kernel_rfl) h
def sx46 (w0 : Nat) (m_0 m_1 m_2 m_3 m_4 m_5 : Int) (m_6 : Option Addr) (m_6_n m_6_c : Nat) (m_7 : Option Addr) (m_7_n m_7_c : Nat) (m_8 : Option Addr) (m_8_n m_8_c : Nat) (R : Ending → World → Prop) (w : World) : Prop :=
 ∀ w1, Grew w w1 → Aa Tryz.prog 91 [.pointer (some ⟨w0, 0, none⟩), .agg #[.int .i64 m_0, .int .i64 m_1, .int .i64 m_2, .int .i64 m_3, .int .i64 m_4, .int .i64 m_5, .slice m_6 m_6_n m_6_c, .slice m_7 m_7_n m_7_c, .slice m_8 m_8_n m_8_c]] w1 (RetR R fun u3 w2 => ∃ p4, u3 = .pointer p4 ∧ ∀ w6, Grew w2 w6 → ifB (Option.isNone p4) (R (.returned (.slice none 0 0)) w6) (Ab p4 (fun d7 => ∃ b8, w6.cell? (Addr.add d7 3) = some (.bool b8) ∧ ifB b8 (R (.returned (.slice none 0 0)) w6) (Ab p4 (fun d9 => ∃ a10 l10 c10, w6.cell? (Addr.add d9 1) = some (.slice a10 l10 c10) ∧ Aa Tryz.prog 92 [.slice a10 l10 c10, .slice m_6 m_6_n m_6_c] w6 (RetR R fun u12 w11 => ∃ b13, u12 = .bool b13 ∧ Ad w6 w11 [(Addr.add d9 1), (Addr.add d7 3)] ∧ ifB (!b13) (R (.returned (.slice none 0 0)) w11) (Ab p4 (fun d15 => Af w11 (Addr.add d15 3) 0 [.bool true] ∧ ∀ w16, w16 = setCells w11 (Addr.add d15 3) 0 [.bool true] → Aa Tryz.prog 89 [.pointer (some ⟨w0, 0, none⟩)] w16 (RetR R fun u18 w17 => ∃ a19 l19 c19, u18 = .slice a19 l19 c19 ∧ ∃ (I21 : Option Addr → Nat → Nat → Int → World → Prop) (m21 : Option Addr → Nat → Nat → Int → World → Nat), I21 none 0 0 0 w17 ∧ ∀ a22 l22 c22 n23 w24, I21 a22 l22 c22 n23 w24 → ifB (decide (n23 < ((l19 : Nat) : Int))) (Ab a19 (fun d25 => (0 ≤ n23 ∧ n23 < (l19 : Nat)) ∧ ∃ n26, w24.cell? (Addr.add d25 (n23.toNat * 1)) = some (.int .i64 n26) ∧ Aa Tryz.prog 90 [.pointer (some ⟨w0, 0, none⟩), .agg #[.int .i64 m_0, .int .i64 m_1, .int .i64 m_2, .int .i64 m_3, .int .i64 m_4, .int .i64 m_5, .slice m_6 m_6_n m_6_c, .slice m_7 m_7_n m_7_c, .slice m_8 m_8_n m_8_c], .int .i64 4, .int .i64 n26] w24 (RetR R fun u28 w27 => ∃ n29 n30 n31 n32 n33 n34 a35 l35 c35 a36 l36 c36 a37 l37 c37, u28 = .agg #[.int .i64 n29, .int .i64 n30, .int .i64 n31, .int .i64 n32, .int .i64 n33, .int .i64 n34, .slice a35 l35 c35, .slice a36 l36 c36, .slice a37 l37 c37] ∧ ∀ w39, Grew w27 w39 → Ab p4 (fun d40 => ∃ m41, w39.cell? (Addr.add d40 2) = some (.map m41) ∧ SemW Tryz.prog (Instr.lookup 137 (.map m41) (.int .i64 n26) false) (fun u43 w42 => ∃ a44 l44 c44, u43 = .slice a44 l44 c44 ∧ Aa Tryz.prog 30 [.slice a44 l44 c44] w42 (RetR R fun u46 w45 => ∃ a47 l47 c47, u46 = .slice a47 l47 c47 ∧ ∀ b49 w50, Ag w45 w50 b49 (.cells #[.int .i64 n29, .int .i64 n30, .int .i64 n31, .int .i64 n32, .int .i64 n33, .int .i64 n34, .slice a35 l35 c35, .slice a47 l47 c47, .slice a37 l37 c37] 48) → SemW Tryz.prog (Builtin.append_ #[51, 51] 51 #[.slice a22 l22 c22, .slice (some ⟨b49, 0, none⟩) 1 1]) (fun u52 w51 => ∃ a53 l53 c53, u52 = .slice a53 l53 c53 ∧ (I21 a53 l53 c53 (IntKind.i64.wrap (n23 + 1)) w51 ∧ m21 a53 l53 c53 (IntKind.i64.wrap (n23 + 1)) w51 < m21 a22 l22 c22 n23 w24)) w50)) w39)))) (R (.returned (.slice a22 l22 c22)) w24))))))))))
theorem sx46.ok {w0 : Nat} {m_0 m_1 m_2 m_3 m_4 m_5 : Int} {m_6 : Option Addr} {m_6_n m_6_c : Nat} {m_7 : Option Addr} {m_7_n m_7_c : Nat} {m_8 : Option Addr} {m_8_n m_8_c : Nat} {R : Ending → World → Prop} {w : World} (h : sx46 w0 m_0 m_1 m_2 m_3 m_4 m_5 m_6 m_6_n m_6_c m_7 m_7_n m_7_c m_8 m_8_n m_8_c R w) : Aa Tryz.prog 46 [.pointer (some ⟨w0, 0, none⟩), .agg #[.int .i64 m_0, .int .i64 m_1, .int .i64 m_2, .int .i64 m_3, .int .i64 m_4, .int .i64 m_5, .slice m_6 m_6_n m_6_c, .slice m_7 m_7_n m_7_c, .slice m_8 m_8_n m_8_c]] w R :=
 okOf { locals := [3, 9], sem := [50, 56], draws := [(2, { order := (ol [0,1,2,3,4,5,6,7,8,9,10,11,12,13,14,15,16,17] .nil), bars := [] })], loops := [(7, { slots := [(6, .slice), (37, .int .i64)], cells := [] })] } mix Tryz.func46 (by kernel_rfl) (by kernel_rfl) (by kernel_rfl) h
def sx47 (d : Nat) (i_0 i_1 i_2 i_3 i_4 i_5 : Int) (i_6 : Option Addr) (i_6_n i_6_c : Nat) (i_7 : Option Addr) (i_7_n i_7_c : Nat) (i_8 : Option Addr) (i_8_n i_8_c : Nat) (R : Ending → World → Prop) (w : World) : Prop :=
  ∀ w1, Grew w w1 → Aa Tryz.prog 91 [.pointer (some ⟨d, 0, none⟩), .agg #[.int .i64 i_0, .int .i64 i_1, .int .i64 i_2, .int .i64 i_3, .int .i64 i_4, .int .i64 i_5, .slice i_6 i_6_n i_6_c, .slice i_7 i_7_n i_7_c, .slice i_8 i_8_n i_8_c]] w1 (RetR R fun u3 w2 => ∃ p4, u3 = .pointer p4 ∧ ∃ J6 : Bool → World → Prop, (ifB (Option.isNone p4) (J6 true w2) (Ab p4 (fun d7 => ∃ b8, w2.cell? (Addr.add d7 3) = some (.bool b8) ∧ J6 (!b8) w2))) ∧ ∀ b9 w10, J6 b9 w10 → ifB b9 (R (.returned (.slice none 0 0)) w10) (ifB (i_5 != 0) (∀ w11, Grew w10 w11 → ∃ m12, w11.cell? ⟨d, 9, none⟩ = some (.map m12) ∧ SemW Tryz.prog (Builtin.delete_ #[102, 3] 0 #[.map m12, .int .i64 i_3]) (fun u14 w13 => u14 = .tuple #[] ∧ R (.returned (.slice none 0 0)) w13) w11) (ifB (i_0 == 5) (Aa Tryz.prog 90 [.pointer (some ⟨d, 0, none⟩), .agg #[.int .i64 i_0, .int .i64 i_1, .int .i64 i_2, .int .i64 i_3, .int .i64 i_4, .int .i64 i_5, .slice i_6 i_6_n i_6_c, .slice i_7 i_7_n i_7_c, .slice i_8 i_8_n i_8_c], .int .i64 6, .int .i64 i_1] w10 (RetR R fun u16 w15 => ∃ n17 n18 n19 n20 n21 n22 a23 l23 c23 a24 l24 c24 a25 l25 c25, u16 = .agg #[.int .i64 n17, .int .i64 n18, .int .i64 n19, .int .i64 n20, .int .i64 n21, .int .i64 n22, .slice a23 l23 c23, .slice a24 l24 c24, .slice a25 l25 c25] ∧ ∀ w27, Grew w15 w27 → ∀ w28, Grew w27 w28 → Ab p4 (fun d29 => ∃ m30, w28.cell? (Addr.add d29 2) = some (.map m30) ∧ SemW Tryz.prog (Instr.lookup 137 (.map m30) (.int .i64 i_1) false) (fun u32 w31 => ∃ a33 l33 c33, u32 = .slice a33 l33 c33 ∧ Aa Tryz.prog 93 [.slice a33 l33 c33] w31 (RetR R fun u35 w34 => ∃ a36 l36 c36, u35 = .slice a36 l36 c36 ∧ ∀ b38 w39, Ag w34 w39 b38 (.cells #[.int .i64 n17, .int .i64 n18, .int .i64 n19, .int .i64 n20, .int .i64 n21, .int .i64 n22, .slice a23 l23 c23, .slice a24 l24 c24, .slice a36 l36 c36] 48) → R (.returned (.slice (some ⟨b38, 0, none⟩) 1 1)) w39)) w28))) (∀ w40, Grew w10 w40 → Ab p4 (fun d41 => ∃ m42, w40.cell? (Addr.add d41 4) = some (.map m42) ∧ SemW Tryz.prog (Instr.mapUpdate 138 (.map m42) (.int .i64 i_1) (.agg #[])) (fun _ w43 => ∀ w44, Grew w43 w44 → Ab p4 (fun d45 => ∃ m46, w44.cell? (Addr.add d45 4) = some (.map m46) ∧ ∃ n47, w44.cell? ⟨d, 1, none⟩ = some (.int .i64 n47) ∧ SemW Tryz.prog (Builtin.len_ #[138] 3 #[.map m46]) (fun u49 w48 => ∃ n50, u49 = .int .i64 n50 ∧ Ad w44 w48 [⟨d, 1, none⟩, (Addr.add d45 4)] ∧ ifB (decide (n50 < n47)) (R (.returned (.slice none 0 0)) w48) (Aa Tryz.prog 90 [.pointer (some ⟨d, 0, none⟩), .agg #[.int .i64 i_0, .int .i64 i_1, .int .i64 i_2, .int .i64 i_3, .int .i64 i_4, .int .i64 i_5, .slice i_6 i_6_n i_6_c, .slice i_7 i_7_n i_7_c, .slice i_8 i_8_n i_8_c], .int .i64 8, .int .i64 0] w48 (RetR R fun u52 w51 => ∃ n53 n54 n55 n56 n57 n58 a59 l59 c59 a60 l60 c60 a61 l61 c61, u52 = .agg #[.int .i64 n53, .int .i64 n54, .int .i64 n55, .int .i64 n56, .int .i64 n57, .int .i64 n58, .slice a59 l59 c59, .slice a60 l60 c60, .slice a61 l61 c61] ∧ ∀ w63, Grew w51 w63 → Ab p4 (fun d64 => ∃ a65 l65 c65,
 w63.cell? (Addr.add d64 1) = some (.slice a65 l65 c65) ∧ Aa Tryz.prog 60 [.slice a65 l65 c65] w63 (RetR R fun u67 w66 => ∃ a68 l68 c68, u67 = .slice a68 l68 c68 ∧ ∀ b70 w71, Ag w66 w71 b70 (.cells #[.int .i64 n53, .int .i64 n54, .int .i64 n55, .int .i64 n56, .int .i64 n57, .int .i64 n58, .slice a68 l68 c68, .slice a60 l60 c60, .slice a61 l61 c61] 48) → R (.returned (.slice (some ⟨b70, 0, none⟩) 1 1)) w71))))) w44)) w40)))))
theorem sx47.ok {d : Nat} {i_0 i_1 i_2 i_3 i_4 i_5 : Int} {i_6 : Option Addr} {i_6_n i_6_c : Nat} {i_7 : Option Addr} {i_7_n i_7_c : Nat} {i_8 : Option Addr} {i_8_n i_8_c : Nat} {R : Ending → World → Prop} {w : World} (h : sx47 d i_0 i_1 i_2 i_3 i_4 i_5 i_6 i_6_n i_6_c i_7 i_7_n i_7_c i_8 i_8_n i_8_c R w) : Aa Tryz.prog 47 [.pointer (some ⟨d, 0, none⟩), .agg #[.int .i64 i_0, .int .i64 i_1, .int .i64 i_2, .int .i64 i_3, .int .i64 i_4, .int .i64 i_5, .slice i_6 i_6_n i_6_c, .slice i_7 i_7_n i_7_c, .slice i_8 i_8_n i_8_c]] w R :=
 okOf { locals := [3, 6, 7], sem := [46, 62], draws := [(5, { order := (ol [0,1,2,3,4,5,6] .nil), bars := [6] }), (9, { order := (ol [0,1,2,3,4,5,6,7,8,9] .nil), bars := [6, 7, 9] }), (11, { order := (ol [0,1,2,3,4,5,6,7] .nil), bars := [7] }), (12, { order := (ol [0,1,2,3,5,6,7,8,9,4,10] .nil), bars := [] })], cuts := [(3, { slots := [(11, .bool)], cells := [] })] } mix Tryz.func47 (by kernel_rfl) (by kernel_rfl) (by kernel_rfl) h
def sx13 (d i : Nat) (p2_0 p2_1 p2_2 p2_3 p2_4 p2_5 : Int) (p2_6 : Option Addr) (p2_6_n p2_6_c : Nat) (p2_7 : Option Addr) (p2_7_n p2_7_c : Nat) (p2_8 : Option Addr) (p2_8_n p2_8_c : Nat) (R : Ending → World → Prop) (w : World) : Prop :=
 ∀ w1, Grew w w1 → Aa Tryz.prog 44 [.agg #[.int .i64 p2_0, .int .i64 p2_1, .int .i64 p2_2, .int .i64 p2_3, .int .i64 p2_4, .int .i64 p2_5, .slice p2_6 p2_6_n p2_6_c, .slice p2_7 p2_7_n p2_7_c, .slice p2_8 p2_8_n p2_8_c]] w1 (RetR R fun u3 w2 => ∃ b4, u3 = .bool b4 ∧ ifB (!b4) (R (.returned (.tuple #[.slice none 0 0, .int .i64 150])) w2) (∃ n6, w2.cell? ⟨d, 8, none⟩ = some (.int .i64 n6) ∧ ∀ w7, Grew w2 w7 → ifB (p2_2 != n6) (R (.returned (.tuple #[.slice none 0 0, .int .i64 170])) w7) (∀ w8, Grew w7 w8 → ∃ n9 n10 n11 a12 l12 c12 n13 n14 n15 n16, Ae w8 ⟨d, 0, none⟩ 0 [.int .i64 n9, .int .i64 n10, .int .i64 n11, .slice a12 l12 c12, .int .i64 n13, .int .i64 n14, .int .i64 n15, .int .i64 n16] ∧ Aa Tryz.prog 38 [.agg #[.int .i64 n9, .int .i64 n10, .int .i64 n11, .slice a12 l12 c12, .int .i64 n13, .int .i64 n14, .int .i64 n15, .int .i64 n16], .int .i64 p2_1] w8 (RetR R fun u18 w17 => ∃ n19, u18 = .int .i64 n19 ∧ ∃ J21 : Bool → World → Prop, (ifB (p2_0 == 1) (J21 (n19 == 1) w17) (J21 false w17)) ∧ ∀ b22 w23, J21 b22 w23 → ifB b22 (Aa Tryz.prog 45 [.pointer (some ⟨d, 0, none⟩), .pointer (some ⟨i, 0, none⟩), .agg #[.int .i64 p2_0, .int .i64 p2_1, .int .i64 p2_2, .int .i64 p2_3, .int .i64 p2_4, .int .i64 p2_5, .slice p2_6 p2_6_n p2_6_c, .slice p2_7 p2_7_n p2_7_c, .slice p2_8 p2_8_n p2_8_c]] w23 (RetR R fun u25 w24 => ∃ a26 l26 c26, u25 = .slice a26 l26 c26 ∧ R (.returned (.tuple #[.slice a26 l26 c26, .int .i64 0])) w24)) (∃ J28 : Bool → World → Prop, (ifB (p2_0 == 3) (J28 (n19 == 1) w23) (J28 false w23)) ∧ ∀ b29 w30, J28 b29 w30 → ifB b29 (Aa Tryz.prog 46 [.pointer (some ⟨d, 0, none⟩), .agg #[.int .i64 p2_0, .int .i64 p2_1, .int .i64 p2_2, .int .i64 p2_3, .int .i64 p2_4, .int .i64 p2_5, .slice p2_6 p2_6_n p2_6_c, .slice p2_7 p2_7_n p2_7_c, .slice p2_8 p2_8_n p2_8_c]] w30 (RetR R fun u32 w31 => ∃ a33 l33 c33, u32 = .slice a33 l33 c33 ∧ R (.returned (.tuple #[.slice a33 l33 c33, .int .i64 0])) w31)) (ifB (p2_0 == 5) (ifB (n19 == 3) (Aa Tryz.prog 47 [.pointer (some ⟨d, 0, none⟩), .agg #[.int .i64 p2_0, .int .i64 p2_1, .int .i64 p2_2, .int .i64 p2_3, .int .i64 p2_4, .int .i64 p2_5, .slice p2_6 p2_6_n p2_6_c, .slice p2_7 p2_7_n p2_7_c, .slice p2_8 p2_8_n p2_8_c]] w30 (RetR R fun u36 w35 => ∃ a37 l37 c37, u36 = .slice a37 l37 c37 ∧ R (.returned (.tuple #[.slice a37 l37 c37, .int .i64 0])) w35)) (R (.returned (.tuple #[.slice none 0 0, .int .i64 0])) w30)) (ifB (p2_0 == 7) (ifB (n19 == 3) (Aa Tryz.prog 47 [.pointer (some ⟨d, 0, none⟩), .agg #[.int .i64 p2_0, .int .i64 p2_1, .int .i64 p2_2, .int .i64 p2_3, .int .i64 p2_4, .int .i64 p2_5, .slice p2_6 p2_6_n p2_6_c, .slice p2_7 p2_7_n p2_7_c, .slice p2_8 p2_8_n p2_8_c]] w30 (RetR R fun u40 w39 => ∃ a41 l41 c41, u40 = .slice a41 l41 c41 ∧ R (.returned (.tuple #[.slice a41 l41 c41, .int .i64 0])) w39)) (R (.returned (.tuple #[.slice none 0 0, .int .i64 0])) w30)) (R (.returned (.tuple #[.slice none 0 0, .int .i64 0])) w30))))))))
theorem sx13.ok {d i : Nat} {p2_0 p2_1 p2_2 p2_3 p2_4 p2_5 : Int} {p2_6 : Option Addr} {p2_6_n p2_6_c : Nat} {p2_7 : Option Addr} {p2_7_n p2_7_c : Nat} {p2_8 : Option Addr} {p2_8_n p2_8_c : Nat} {R : Ending → World → Prop} {w : World} (h : sx13 d i p2_0 p2_1 p2_2 p2_3 p2_4 p2_5 p2_6 p2_6_n p2_6_c p2_7 p2_7_n p2_7_c p2_8 p2_8_n p2_8_c R w) : Aa Tryz.prog 13 [.pointer (some ⟨d, 0, none⟩), .pointer (some ⟨i, 0, none⟩), .agg #[.int .i64 p2_0, .int .i64 p2_1, .int .i64 p2_2, .int .i64 p2_3, .int .i64 p2_4, .int .i64 p2_5, .slice p2_6 p2_6_n p2_6_c, .slice p2_7 p2_7_n p2_7_c, .slice p2_8 p2_8_n p2_8_c]] w R :=
 okOf { locals := [5], known := [11, 14], draws := [(7, { order := (ol [0,1,2,3,4,5,6,7] .nil), bars := [6] })], cuts := [(9, { slots := [(35, .bool)], cells := [] }), (11, { slots := [(47, .bool)], cells := [] })] } mix Tryz.func13 (by kernel_rfl) (by kernel_rfl) (by kernel_rfl) h
theorem Abv : B4 Tryz.prog 51 48 Enc.msg.sz 120 := B4.mk' (z := .agg #[.int .i64 0, .int .i64 0, .int .i64 0, .int .i64 0, .int .i64 0, .int .i64 0, .slice none 0 0, .slice none 0 0, .slice none 0 0]) (by kernel_rfl) (by kernel_rfl) (by kernel_rfl)
theorem Sc {a : Option Addr} {n c : Nat} {l : List Am} {w : World} (hr : Reads w Enc.pair (a, n, c) l) (hl : l.length * 24 ≤ 140737488355328) : Aa Tryz.prog 93 [.slice a n c] w (Rets (Dk w 83 Enc.pair l)) := by
 refine sx93.ok ?_
 unfold sx93
 refine ⟨fun h => ?_, fun h b w1 hal => ?_⟩
 ·have hn : a = none := by simpa using h
  have hl0 : l = [] := by
   cases l with
   | nil => rfl
   | cons x l => obtain ⟨d, hd, -⟩ := hr.1 0 x rfl; rw [hn] at hd; cases hd
  subst hl0
  exact ⟨_, rfl, none, 0, 0, rfl, Own.nil _ _ _ _, Grew.refl _⟩
 ·have hr1 := hr.grew hal.grew
  have ho : Own w1 w.heap.size 83 Enc.pair (some ⟨b, 0, none⟩) 0 0 [] := Own.alloc (l := []) hal (Nat.le_refl _) rfl (by simp [maxLen])
  refine B5 R7 ho hr1.1 hr1.2.1 hr1.2.2.1 hal.grew.size (by simp only [maxLen, List.length_nil]; omega) (by simpa using hl) ?_
  rintro v w2 ⟨a2, n2, c2, rfl, ho2, hu2, hb2⟩
  exact ⟨_, _, _, rfl, _, rfl, a2, n2, c2, rfl, by simpa using ho2, hal.grew.then_own hu2 fun b hb => (ho.blk hb).1⟩
theorem Abw {a b : Option Addr} {n c m d : Nat} {l r : List Int} {w : World} (hr : Reads w (Enc.int .i64) (a, n, c) l) (hi : Reads w (Enc.int .i64) (b, m, d) r) (hl : l.length ≤ 9223372036854775806) :
  Aa Tryz.prog 92 [.slice a n c, .slice b m d] w (Rets fun u w' => u = .bool (decide (l = r)) ∧ Grew w w') := by
 refine sx92.ok ?_
 unfold sx92
 have hn : n = l.length := hr.2.1
 subst hn
 have hm : m = r.length := hi.2.1
 subst hm
 refine ⟨fun hne => ⟨_, rfl, ?_, Grew.refl _⟩, fun heq => ?_⟩
 ·have : ¬ l = r := fun e => by rw [e] at hne; simp at hne
  rw [decide_eq_false this]
 have hlen : l.length = r.length := by simp at heq; omega
 refine ⟨fun i w' => ∃ k : Nat, i = k ∧ k ≤ l.length ∧ l.take k = r.take k ∧ Grew w w', fun i _ => l.length - i.toNat, ⟨0, rfl, Nat.zero_le _, rfl, Grew.refl _⟩, ?_⟩
 rintro n2 w3 ⟨k, rfl, hk, hall, hg3⟩
 refine ⟨fun hlt => ?_, fun hge => ?_⟩
 ·simp only [decide_eq_true_eq] at hlt
  obtain ⟨d1, e, rfl, he, hc⟩ := (hr.grew hg3).at0 (k := k) (by omega)
  obtain ⟨d2, f, rfl, hf, hc2⟩ := (hi.grew hg3).at0 (k := k) (by omega)
  have hw : IntKind.i64.wrap ((k : Int) + 1) = ((k + 1 : Nat) : Int) := by rw [IntKind.wrap_i64]; omega
  rw [Ab]
  refine ⟨⟨by omega, by omega⟩, _, Cc hc, ?_⟩
  rw [Ab]
  refine ⟨⟨by omega, by omega⟩, _, Cc hc2, fun w8 hg8 => ⟨fun hne => ⟨_, rfl, ?_, hg3.trans hg8⟩, fun h1 => ⟨⟨k + 1, hw, by omega, ?_, hg3.trans hg8⟩, by simp only [hw]; omega⟩⟩⟩
  ·have : ¬ l = r := fun e' => by rw [e', hf] at he; cases he; simp at hne
   rw [decide_eq_false this]
  ·have : e = f := by simpa using h1
   rw [Ak he, Ak hf, hall, this]
 ·simp only [decide_eq_false_iff_not] at hge
  refine ⟨_, rfl, ?_, hg3⟩
  rw [List.take_of_length_le (by omega), List.take_of_length_le (by omega)] at hall
  rw [decide_eq_true hall]
structure Ba (w : World) (B : Nat) (a : Option Addr) (n c : Nat) (xs : List Msg) : Prop where
 own : Own w B 48 Enc.msg a n c xs
 each : ∀ x ∈ xs, MO w B x
theorem Ba.grew {w w' : World} {B : Nat} {a : Option Addr} {n c : Nat} {xs : List Msg} (h : Ba w B a n c xs) (hg : Grew w w') : Ba w' B a n c xs := ⟨h.own.grew hg, fun x hx => (h.each x hx).grew hg⟩
theorem Ba.base {w : World} {B B' : Nat} {a : Option Addr} {n c : Nat} {xs : List Msg} (h : Ba w B a n c xs) (hb : B' ≤ B) : Ba w B' a n c xs := ⟨h.own.base hb, fun x hx => (h.each x hx).base hb⟩
theorem Ba.nil (w : World) (B : Nat) : Ba w B none 0 0 [] := ⟨Own.nil _ _ _ _, fun x hx => (by simp at hx)⟩
theorem Ba.upd {S : Nat → Prop} {w w' : World} {B : Nat} {a : Option Addr} {n c : Nat} {xs : List Msg} (h : Ba w B a n c xs) (hu : Upd S w w') (h1 : ∀ b, Blk a b → ¬ S b) (h2 : ∀ x ∈ xs, ∀ b, x.Blk b → ¬ S b) : Ba w' B a n c xs := ⟨h.own.upd hu h1, fun x hx => (h.each x hx).upd hu (h2 x hx)⟩
def Pu (w : World) (B : Nat) (X : A6) (V' : Ac) (ms : List MsgV) (a : Option Addr) (n c : Nat) (w' : World) : Prop := ∃ X' xs, WM w B X w' X' V' ∧ Ba w' w.heap.size a n c xs ∧ xs.map (·.c) = ms ∧ (∀ b, Blk a b → ¬ C8 X' b) ∧ ∀ x ∈ xs, ∀ b, x.Blk b → ¬ C8 X' b
theorem H8 {w w1 w' : World} {B : Nat} {X X' : A6} {V' : Ac} {ms : List MsgV} {a : Option Addr} {n c : Nat} {xs : List Msg} (hM : WM w B X w1 X' V') (hg : Grew w1 w') (hO : Ba w' w1.heap.size a n c xs) (hc : xs.map (·.c) = ms) : Pu w B X V' ms a n c w' := by
 refine ⟨X', xs, hM.more hg, hO.base hM.upd.size, hc, fun b hb hf => ?_, fun x hx b hb hf => ?_⟩
 ·have := (hO.own.blk hb).1; have := (hM.at_.foot hf).2; omega
 ·have := ((hO.each x hx).blk hb).1; have := (hM.at_.foot hf).2; omega
theorem Fp {w w' : World} {B : Nat} {X : A6} {V : Ac} (h : WA w B X V) (hg : Grew w w') : Pu w B X V [] none 0 0 w' := H8 (B7.still h (Grew.refl w)) hg (Ba.nil _ _) rfl
theorem Pu.pre {w0 w w' : World} {B : Nat} {X : A6} {V' : Ac} {ms : List MsgV} {a : Option Addr} {n c : Nat} (h : Pu w B X V' ms a n c w') (hg : Grew w0 w) : Pu w0 B X V' ms a n c w' := by
 obtain ⟨X', xs, h1, h2, h3⟩ := h
 exact ⟨X', xs, h1.pre hg, h2.base hg.size, h3⟩
def Took (w : World) (B : Nat) (X : A6) (r : Ac × List MsgV) (u : Value) (w' : World) : Prop := ∃ a n c, u = .slice a n c ∧ Pu w B X r.1 r.2 a n c w'
theorem J3 {w1 w2 w' : World} {b : Nat} {x : Msg} (hg : Grew w1 w2) (hx : MO w2 w1.heap.size x) (hal : Ag w2 w' b (.cells x.vals.toArray 48)) : Ba w' w1.heap.size (some ⟨b, 0, none⟩) 1 1 [x] := by
 refine ⟨(Own.alloc (E := Enc.msg) (l := [x]) hal (Nat.le_refl _) (by simp [Enc.msg]) (by simp [maxLen])).base hg.size, fun y hy => ?_⟩
 simp at hy; subst hy; exact hx.grew hal.grew
theorem uPm : Tryz.prog.underlying 137 = some (.map 3 46) := by kernel_rfl
theorem uAm : Tryz.prog.underlying 138 = some (.map 3 127) := by kernel_rfl
theorem zSlP : ∀ w, (zeroValue 46).run Tryz.prog w = .ok (.slice none 0 0) w := Jw (by kernel_rfl)
theorem Pv {v : SrcV} {f : List Int} {most : Int} (hv : v.Fits) (h : (Bp v f most).err = 0) : (1 ≤ most ∧ most ≤ 16) ∧ C7 v f = 0 ∧ Bp v f most = ⟨toV v most f, btwV v f (toV v most f) f.length, 0⟩ ∧ f.length ≤ 4 := by
 unfold Bp at h ⊢
 by_cases h1 : most < 1 ∨ 16 < most
 ·rw [if_pos h1] at h; cases h
 ·rw [if_neg h1] at h ⊢
  by_cases h2 : C7 v f = 0
  ·rw [if_pos h2]
   have := (C2.1 h2).1; have := hv.parts
   exact ⟨by omega, h2, rfl, by omega⟩
  ·rw [if_neg h2] at h; cases h
theorem Adu {v : SrcV} {f : List Int} {most : Int} (hm : 1 ≤ most ∧ most ≤ 16) (hE : C7 v f = 0) (i : Nat) : (btwI v f (toV v most f) i).length ≤ 16 := by
 unfold btwI
 rw [List.length_drop, List.length_take]
 cases he : f[i]? with
 | none =>
  rw [List.getD_eq_getElem?_getD, List.getD_eq_getElem?_getD, he, List.getElem?_eq_none (by rw [D9]; exact List.getElem?_eq_none_iff.1 he)]; simp
 | some e =>
  rw [J0 he, J0 (Jz he)]
  have := (C2.1 hE).2 i e he
  unfold toI
  split <;> omega
theorem Nu {v : SrcV} {f : List Int} {most : Int} (hm : 1 ≤ most ∧ most ≤ 16) (hE : C7 v f = 0) : ∀ n, (btwV v f (toV v most f) n).length ≤ 16 * n
 | 0 => by simp [btwV]
 | n + 1 => by rw [Jy, List.length_append]; have := Nu hm hE n; have := Adu hm hE n; omega
theorem Adv {v : SrcV} {f : List Int} {most : Int} (hv : v.Fits) (hm : 1 ≤ most) (hE : C7 v f = 0) : ∀ e ∈ toV v most f, 0 ≤ e ∧ e ≤ 256 := by
 intro e he
 obtain ⟨i, hi⟩ := List.getElem?_of_mem he
 have hil : i < f.length := by have := (List.getElem?_eq_some_iff.1 hi).1; rwa [D9] at this
 rw [Jz (List.getElem?_eq_getElem hil)] at hi
 cases hi
 have h1 := (C2.1 hE).2 i _ (List.getElem?_eq_getElem hil)
 have h2 := R9 hv (i : Int)
 unfold toI
 split <;> omega
theorem Sd {V : Ac} {s : SrcV} {m : MsgV} (hV : V.Ok) (hs : s.Fits) (h : (Bp s m.ends V.plan.batch).err = 0) : (V.newA s m).Ok V.plan ∧ (Bv (bAll V.plan.ops V.plan.agg (Bp s m.ends V.plan.batch).recs).1).length ≤ 64 ∧ ∀ x ∈ Bv (bAll V.plan.ops V.plan.agg (Bp s m.ends V.plan.batch).recs).1, x.Fits := by
 obtain ⟨h1, h2, h3, h4⟩ := Pv hs h
 have hG := hV.good
 have hrf : ∀ r ∈ (Bp s m.ends V.plan.batch).recs, r.Fits := by rw [h3]; exact Mi hs _ _ _
 have hrl : (Bp s m.ends V.plan.batch).recs.length ≤ 64 := by rw [h3]; have := Nu (v := s) h1 h2 m.ends.length; simp only; omega
 have htf := Ym (kind := V.plan.agg) hV.ops hrf
 have htl := Abu (l := V.plan.ops) (kind := V.plan.agg) (rs := (Bp s m.ends V.plan.batch).recs)
 rw [H7] at htf htl
 refine ⟨⟨?_, E8 _ _, fun l hl => ?_, by simp [Ac.newA], by simp [Ac.newA]⟩, by omega, htf⟩
 ·unfold Ac.newA; rw [h3]
  exact ⟨by rw [D9]; exact h4, Adv hs h1.1 h2⟩
 ·obtain ⟨i, -, rfl⟩ := List.mem_map.1 hl
  exact ⟨Nat.le_trans (Mg _ _ _) (by omega), fun x hx => htf x (List.mem_filter.1 hx).1⟩
set_option maxHeartbeats 2000000 in
theorem Yn {w : World} {B B2 : Nat} {X : A6} {V : Ac} {m : Msg} {sx : SrcX} {s : SrcV} (h : WA w B X V) (hs : SrA w B2 sx s) (hm : m.At w) (hms : 1 ≤ m.c.batch ∧ m.c.batch ≤ 1099511627776) (hB : B ≤ w.heap.size) :
  Aa Tryz.prog 45 [.pointer (some ⟨X.p, 0, none⟩), .pointer (some ⟨sx.p, 0, none⟩), m.val] w (Rets (Took w B X (V.assign s m.c))) := by
 refine sx45.ok ?_
 unfold sx45
 have nb : ∀ {x y : World}, Ad x y [] := by intro x y; simp [Ad]
 have hG := h.ok.good
 have hfit := hs.fits
 intro w1 hg1
 refine ⟨fun w' => Grew w w' ∧ V.stale m.c = false, fun w3 hg3 => ?_, ?_⟩
 ·have hg3 := hg1.trans hg3
  have h3 := h.grew hg3
  have hget := h.get m.c.batch
  refine ⟨_, wMap h3, E4 (F := attF) Ty uInt zAtt h3.map ?_⟩
  cases hx : getM X.l m.c.batch with
  | none =>
   rw [hx] at hget
   exact ⟨_, rfl, fun h => (by simp at h), fun _ w11 hg11 => ⟨hg3.trans hg11, by unfold Ac.stale; rw [hget]; rfl⟩⟩
  | some x =>
   rw [hx] at hget
   obtain ⟨hA, -, -⟩ := h3.att hx
   refine ⟨_, rfl, fun _ => ?_, fun h => (by simp at h)⟩
   rw [Ab]
   have hc : w3.cell? ⟨x.b, 0, none⟩ = some (.int .i64 x.c.number) := by rw [hA.row.cell]; rfl
   have hst : V.stale m.c = decide (m.c.att ≤ x.c.number) := by unfold Ac.stale; rw [hget]; rfl
   refine ⟨_, hc, fun w10 hg10 => ⟨fun hge => ?_, fun hlt => ⟨hg3.trans hg10, by rw [hst]; exact hlt⟩⟩⟩
   refine ⟨_, rfl, none, 0, 0, rfl, ?_⟩
   have : V.assign s m.c = (V, []) := by unfold Ac.assign; rw [if_pos (by rw [hst]; exact hge)]
   rw [this]
   exact Fp h (hg3.trans hg10)
 rintro w12 ⟨hg12, hst⟩ w13 hg13
 have hg13 := hg12.trans hg13
 have h13 := h.grew hg13
 have hc5 : w13.cell? ⟨X.p, 5, none⟩ = some (.int .i64 V.plan.batch) := by rw [h13.row.cell]; rfl
 refine ⟨_, hc5, (Adr (hs.grew hg13) (hm.grew hg13).e).use fun u w15 ⟨a17, l17, c17, a18, l18, c18, hv, hoE, hoR, hg15⟩ => ?_⟩
 subst hv
 have hg15' := hg13.trans hg15
 have hasg : ∀ r, V.assign s m.c = r ↔ (if (Bp s m.c.ends V.plan.batch).err ≠ 0 then (V, []) else (V.setA m.c.batch (V.newA s m.c), [{ V.say m.c 2 0 with ends := (Bp s m.c.ends V.plan.batch).to }])) = r := by
  intro r; unfold Ac.assign; rw [if_neg (by rw [hst]; simp)]
 refine ⟨_, _, _, _, _, _, _, rfl, fun hne => ?_, fun heq w21 hg21 => ?_⟩
 ·rw [(hasg (V, [])).2 (if_pos (by simpa using hne))]
  exact ⟨_, rfl, none, 0, 0, rfl, Fp h hg15'⟩
 have herr : (Bp s m.c.ends V.plan.batch).err = 0 := by simpa using heq
 rw [(hasg _).2 (if_neg (by simp [herr]))]
 obtain ⟨f1, f2, f3, f4⟩ := Pv hfit herr
 obtain ⟨hAok, hTl, hTf⟩ := Sd h.ok hfit herr
 have hrf : ∀ r ∈ (Bp s m.c.ends V.plan.batch).recs, r.Fits := by rw [f3]; exact Mi hfit _ _ _
 have hrl : (Bp s m.c.ends V.plan.batch).recs.length ≤ 64 := by rw [f3]; have := Nu (v := s) f1 f2 m.c.ends.length; simp only; omega
 generalize hF : Bp s m.c.ends V.plan.batch = F at hoE hoR hrf hrl
 have hg21' := hg15'.trans hg21
 have h21 := h.grew hg21'
 have hc3 : w21.cell? ⟨X.p, 3, none⟩ = some (.slice X.o.1 X.o.2.1 X.o.2.2) := by rw [h21.row.cell]; rfl
 have hc4 : w21.cell? ⟨X.p, 4, none⟩ = some (.int .i64 V.plan.agg) := by rw [h21.row.cell]; rfl
 refine ⟨_, _, _, hc3, _, hc4, (Abi (kind := V.plan.agg) h21.ops.reads h.ok.ops (hoR.grew hg21).reads hrf (by omega)).use fun u w24 ⟨a26, l26, c26, hv, hoT, hg24⟩ => ?_⟩
 simp only [hG.ops, hG.agg, and_self, if_true] at hv hoT
 rw [H7] at hoT
 subst hv
 have hg24' := hg21'.trans hg24
 have hT : Bv (bAll V.plan.ops V.plan.agg F.recs).1 = Bv (bAll V.plan.ops V.plan.agg (Bp s m.c.ends V.plan.batch).recs).1 := by rw [hF]
 rw [← hT] at hTl hTf
 refine ⟨_, _, _, _, _, rfl, fun h => (by simp at h), fun _ => Et fun pm w30 halp => ⟨_, rfl, Et fun am w33 hala => ⟨_, rfl, fun b36 w37 hal37 => ?_⟩⟩⟩
 have hgm := halp.grew.trans (hala.grew.trans hal37.grew)
 have hg37 := hg24'.trans hgm
 have h37 := h.grew hg37
 obtain ⟨hpA, hpC⟩ := Ww h37
 refine ⟨_, _, _, _, _, _, _, _, _, _, hpC, (Adq (x := plX X V) hpA hG (hoT.grew hgm).reads hTf (by omega)).use fun u w46 ⟨a48, l48, c48, hs48, hv, hoH, hD, hg46⟩ => ?_⟩
 subst hv
 have hg46' := hg37.trans hg46
 rw [show (plX X V).c = V.plan from rfl] at hD
 have hdl : hs48.length = V.plan.stores.toNat := by rw [hD.len, E8]
 have hl48 : l48 = V.plan.stores.toNat := by rw [hoH.len, hdl]
 have hSt := hG.stores; have hWk := hG.workers
 have zk : ∀ (i : Nat) (hd : Sl3), i < V.plan.stores.toNat → hs48[i]? = some hd → ((A3 V.plan).zip hs48)[i]? = some (1 + V.plan.workers + (i : Int), hd) := fun i hd hi hh => Adt (C6 hi) hh
 have s37 := hg37.size
 have npm := halp.new; have nam := hala.new; have nb36 := hal37.new
 have lpm := halp.lt; have lam := hala.lt; have lb36 := hal37.lt
 have sa := hala.grew.size; have sp := halp.grew.size; have s24 := hg24'.size; have s46 := hg46.size
 have hrow37 : Row w37 b36 140 [.int .i64 m.c.att, .slice a17 l17 c17, .map (some pm), .bool false, .map (some am)] := hal37.at_
 refine ⟨_, _, _, rfl, fun i w' => ∃ k : Nat, i = k ∧ k ≤ V.plan.stores.toNat ∧ Av w' pm .i64 slF (((A3 V.plan).zip hs48).take k) ∧ Upd (fun b => b = pm) w46 w', fun i _ => 9 - i.toNat, ⟨0, rfl, Nat.zero_le _, by simpa using ((Av.empty (F := slF) halp).grew (hala.grew.trans hal37.grew)).grew hg46, Upd.refl _ _⟩, ?_⟩
 have hpmX : ∀ b, C8 X b → b ≠ pm := fun b hb e => by have := (h.foot hb).2; have := hg24'.size; omega
 rintro n51 w52 ⟨k, rfl, hk, hpm52, hu52⟩
 have hg52 : Grew w w52 := hg46'.then_own hu52 fun b e => by omega
 have h52 := h.grew hg52
 refine ⟨fun hlt => ?_, fun hge w64 hg64 => ?_⟩
 ·simp only [decide_eq_true_eq] at hlt
  have hks : k < V.plan.stores.toNat := by omega
  have hw : IntKind.i64.wrap ((k : Int) + 1) = ((k + 1 : Nat) : Int) := by rw [IntKind.wrap_i64]; omega
  have hoH52 := hoH.upd hu52 fun b hb e => by have := (hoH.blk hb).1; omega
  obtain ⟨d, hd, hdd, hh, hhc⟩ := hoH52.reads.at0 (k := k) (by omega)
  have hhcell : w52.cell? (Addr.add d (((k : Nat) : Int).toNat * 1)) = some (.slice hd.1 hd.2.1 hd.2.2) := by
   have := Ai hhc 0 _ rfl
   simpa [Enc.slice, Addr.add_zero'] using this
  rw [hdd, Ab]
  refine ⟨⟨by omega, by omega⟩, _, _, _, hhcell, fun w55 hg55 => ?_⟩
  have hrow55 := (((hrow37.grew hg46).upd hu52 (by omega)).grew hg55)
  have hc2 : w55.cell? ⟨b36, 2, none⟩ = some (.map (some pm)) := by rw [hrow55.cell]; rfl
  refine ⟨_, hc2, (Q3 (h52.grew hg55)).use fun u w57 ⟨a59, l59, c59, hv, ho59, hg57⟩ => ?_⟩
  subst hv
  refine ⟨_, _, _, rfl, ⟨hg57.block _ hrow55.lt, trivial⟩, ?_⟩
  have hl59 : l59 = V.plan.stores.toNat := by rw [ho59.len, Cj]
  obtain ⟨d2, nd, hd2, hnd, hndc⟩ := ho59.reads.at0 (k := k) (by omega)
  rw [C6 hks] at hnd
  cases hnd
  rw [hd2, Ab]
  refine ⟨⟨by omega, by omega⟩, _, Cc hndc, ?_⟩
  have hz := zk k hd hks hh
  have hnew : setM (((A3 V.plan).zip hs48).take k) (1 + V.plan.workers + (k : Int)) hd = ((A3 V.plan).zip hs48).take (k + 1) := by
   rw [Ak hz]
   refine Abp fun p hp e => ?_
   obtain ⟨j, hj⟩ := List.getElem?_of_mem hp
   rw [List.getElem?_take] at hj
   split at hj
   ·rename_i hjk
    have hjl := (List.getElem?_eq_some_iff.1 hj).1
    rw [List.length_zip, Cj, hdl] at hjl
    rw [List.getElem?_zip_eq_some] at hj
    rw [C6 (by omega)] at hj
    have := hj.1; simp only [Option.some.injEq] at this
    omega
   ·cases hj
  refine Ed (F := slF) (x := hd) uPm uInt (hpm52.grew (hg55.trans hg57)) (Vl (by omega)) fun w63 hm63 hu63 => ?_
  rw [hnew] at hm63
  refine ⟨⟨k + 1, hw, by omega, hm63, (hu52.trans (hg55.trans hg57).upd).trans hu63⟩, by simp only [hw]; omega⟩
 simp only [decide_eq_false_iff_not] at hge
 have hks : k = V.plan.stores.toNat := by omega
 subst hks
 rw [List.take_of_length_le (by rw [List.length_zip, Cj]; omega)] at hpm52
 have hg64' := hg52.trans hg64
 have h64 := h.grew hg64'
 -- the new attempt
 let y : AttX := ⟨b36, (a17, l17, c17), pm, am, hs48, V.newA s m.c⟩
 have hoE64 : Own w64 w.heap.size 3 (Enc.int .i64) a17 l17 c17 F.to := ((((hoE.base hg13.size).grew (hg21.trans (hg24.trans hgm))).grew hg46).upd hu52 fun b hb e => by have := ((hoE.base hg13.size).blk hb).2; have := (hg21.trans hg24).size; omega).grew hg64
 have hD64 := ((hD.base s37).upd hu52 fun b hb e => by have := (hD.feet hb).1; omega).grew hg64
 have hyA : Eg wT.A wT.I wT.P V.plan w64 w.heap.size y := by
  refine ⟨((hrow37.grew hg46).upd hu52 (by omega)).grew hg64, ?_, ?_, hpm52.grew hg64, ((((Av.empty (F := Kh) hala).grew hal37.grew).grew hg46).upd hu52 (by omega)).grew hg64, ⟨by simp only [y]; omega, by simp only [y]; omega, by simp only [y]; omega⟩, by simp only [y]; omega⟩
  ·have : (V.newA s m.c).ends = F.to := by unfold Ac.newA; rw [hF]
   simp only [y]; rw [this]; exact hoE64
  ·have : (V.newA s m.c).pairs = Gx V.plan.stores (Bv (bAll V.plan.ops V.plan.agg F.recs).1) := by unfold Ac.newA; rw [hF]
   simp only [y]; rw [this]; exact hD64
 refine ⟨_, wMap h64, Ed (F := attF) (x := y) Ty uInt h64.map (Vl (by omega)) fun w66 hm66 hu66 => ?_⟩
 have hM := Bg.put h hg64' hms (hyA.base hB) hAok (fun b hb => (hyA.foot hb).1) hm66 hu66
 refine (Lo (m := m) (kind := 2) (to := 0) hM.at_).use fun u w67 ⟨hv, hg67⟩ => ?_
 subst hv
 refine ⟨_, _, _, _, _, _, _, _, _, _, _, _, _, _, _, rfl, fun w79 hg79 => ?_⟩
 have hE66 := hoE64.upd hu66 fun b hb e => by have := (hoE64.blk hb).1; have := h.map.lt; omega
 have hl4 : F.to.length ≤ 4 := by rw [← hF, f3]; simp only; rw [D9]; exact f4
 refine (Gy ((hE66.grew hg67).grew hg79).reads (by omega)).use fun u w80 ⟨a82, l82, c82, hv, ho82, hg80⟩ => ?_
 subst hv
 refine ⟨_, _, _, rfl, fun b84 w85 hal85 => ⟨_, rfl, _, _, _, rfl, ?_⟩⟩
 have hg80' := hg67.trans (hg79.trans hg80)
 let x : Msg := ⟨{ V.say m.c 2 0 with ends := F.to }, (a82, l82, c82), (none, 0, 0), (none, 0, 0)⟩
 have hx : MO w80 w66.heap.size x := ⟨ho82.base (hg67.trans hg79).size, Own.nil _ _ _ _, Own.nil _ _ _ _⟩
 exact H8 hM (hg80'.trans hal85.grew) (J3 hg80' hx hal85) rfl
theorem T1 {p : Bd} {w : World} {B : Nat} {x : AttX} (h : Eg wT.A wT.I wT.P p w B x) (hn : x.c.pairs.length = p.stores.toNat) {i : Nat} (hi : i < p.stores.toNat) :
  ∃ hd l, getM ((A3 p).zip x.ps) (1 + p.workers + (i : Int)) = some hd ∧ x.c.pairs[i]? = some l ∧ Own w B 83 Enc.pair hd.1 hd.2.1 hd.2.2 l := by
 have hl : i < x.ps.length := by rw [h.deal.len]; omega
 have h1 := List.getElem?_eq_getElem hl
 have h2 := List.getElem?_eq_getElem (show i < x.c.pairs.length by omega)
 exact ⟨_, _, Tw (Kk p) (C6 hi) h1, h2, h.deal.own i _ _ h1 h2⟩
set_option maxHeartbeats 1000000 in
theorem Abx {w : World} {B : Nat} {X : A6} {V : Ac} {m : Msg} (h : WA w B X V) (hm : m.At w) :
  Aa Tryz.prog 46 [.pointer (some ⟨X.p, 0, none⟩), m.val] w (Rets (Took w B X (V.begin m.c))) := by
 refine sx46.ok ?_
 unfold sx46
 have hG := h.ok.good
 have hSt := hG.stores; have hWk := hG.workers
 intro w1 hg1
 refine (Tz (m := m) (h.grew hg1)).use fun u w2 ⟨hg2, hc⟩ => ?_
 have hg2 := hg1.trans hg2
 rcases hc with ⟨hf, rfl⟩ | ⟨x, hx, hnum, hf, rfl⟩
 ·refine ⟨_, rfl, fun w6 hg6 => ⟨fun _ => ⟨_, rfl, none, 0, 0, rfl, ?_⟩, fun h => (by simp at h)⟩⟩
  have : V.begin m.c = (V, []) := by unfold Ac.begin; rw [hf]
  rw [this]; exact Fp h (hg2.trans hg6)
 refine ⟨_, rfl, fun w6 hg6 => ⟨fun h => (by simp at h), fun _ => ?_⟩⟩
 have hg6 := hg2.trans hg6
 have h6 := h.grew hg6
 obtain ⟨hA, hok, hk⟩ := h6.att hx
 have hb : V.begin m.c = if x.c.begun = true ∨ x.c.ends ≠ m.c.ends then (V, []) else (V.setA m.c.batch { x.c with begun := true }, (List.range V.plan.stores.toNat).map (V.begins m.c x.c)) := by unfold Ac.begin; rw [hf]
 have c3 : w6.cell? (Addr.add (⟨x.b, 0, none⟩ : Addr) 3) = some (.bool x.c.begun) := by rw [Au, hA.row.cell]; rfl
 have c1 : w6.cell? (Addr.add (⟨x.b, 0, none⟩ : Addr) 1) = some (.slice x.e.1 x.e.2.1 x.e.2.2) := by rw [Au, hA.row.cell]; rfl
 rw [Ab]
 refine ⟨_, c3, fun hbt => ?_, fun hbf => ?_⟩
 ·rw [hb, if_pos (.inl hbt)]
  exact ⟨_, rfl, none, 0, 0, rfl, Fp h hg6⟩
 rw [Ab]
 refine ⟨_, _, _, c1, (Abw hA.ends.reads (hm.grew hg6).e (by have := hok.ends; omega)).use fun u w11 ⟨hv, hg11⟩ => ?_⟩
 subst hv
 have hg11' := hg6.trans hg11
 refine ⟨_, rfl, ⟨hg11.block _ hA.row.lt, hg11.block _ hA.row.lt, trivial⟩, fun hne => ?_, fun heq => ?_⟩
 ·rw [hb, if_pos (.inr (by simpa using hne))]
  exact ⟨_, rfl, none, 0, 0, rfl, Fp h hg11'⟩
 have hee : x.c.ends = m.c.ends := by simpa using heq
 rw [hb, if_neg (by simp [hbf, hee])]
 have h11 := h.grew hg11'
 obtain ⟨hA11, -, -⟩ := h11.att hx
 obtain ⟨r1, r2, r3⟩ := hA11.row.set1 (o := 3) (by simp) (.bool true)
 rw [Ab, Au, Nat.zero_add]
 refine ⟨r1, ?_⟩
 rintro w16 rfl
 let y : AttX := { x with c := { x.c with begun := true } }
 have hyA : Eg wT.A wT.I wT.P V.plan (setCells w11 ⟨x.b, 3, none⟩ 0 [.bool true]) B y := by
  refine ⟨r2, hA11.ends.upd r3 fun b hb e => ?_, hA11.deal.upd r3 fun b hb e => ?_, hA11.pmap.upd r3 fun e => ?_, hA11.amap.upd r3 fun e => ?_, hA11.lo, hA11.ne⟩
  ·subst e; exact hA11.row.own_ne hA11.ends wTok.AI hb
  ·subst e
   obtain ⟨cur, ho⟩ := hA11.deal.obj hb
   have := hA11.row; unfold Row at this; rw [ho] at this
   exact wTok.AP (Obj.cells.inj (Option.some.inj this)).2.1.symm
  ·exact hA11.pmap.row_ne hA11.row e.symm
  ·exact hA11.amap.row_ne hA11.row e.symm
 have hM := Bg.chg h11 hx (y := y) rfl r3 (fun b e => by subst e; exact ⟨.inl rfl, fun e => Row.row_ne hA11.row h11.row (fun e => wTok.WA e.symm) e, Row.own_ne hA11.row h11.ops (fun e => wTok.OA e.symm)⟩) hyA ⟨hok.ends, hok.num, hok.pairs, hok.app⟩ (fun b hb => .inl hb)
 have hM0 := hM.pre hg11'
 generalize setCells w11 ⟨x.b, 3, none⟩ 0 [.bool true] = w16 at hM hM0 hyA r2 r3
 refine (Q3 hM.at_).use fun u w17 ⟨a19, l19, c19, hv, ho19, hg17⟩ => ?_
 subst hv
 have hl19 : l19 = V.plan.stores.toNat := by rw [ho19.len, Cj]; rfl
 refine ⟨_, _, _, rfl, fun a n c i w' => ∃ (k : Nat) (xs : List Msg), i = k ∧ k ≤ V.plan.stores.toNat ∧ Ba w' w17.heap.size a n c xs ∧ xs.map (·.c) = (List.range k).map (V.begins m.c x.c) ∧ Grew w17 w', fun _ _ _ i _ => 9 - i.toNat, ⟨0, [], rfl, Nat.zero_le _, Ba.nil _ _, rfl, Grew.refl _⟩, ?_⟩
 rintro a22 l22 c22 n23 w24 ⟨k, xs, rfl, hkk, hO, hxs, hg24⟩
 have hxl : xs.length = k := by have := congrArg List.length hxs; simpa using this
 refine ⟨fun hlt => ?_, fun hge => ?_⟩
 ·simp only [decide_eq_true_eq] at hlt
  have hks : k < V.plan.stores.toNat := by omega
  have hw : IntKind.i64.wrap ((k : Int) + 1) = ((k + 1 : Nat) : Int) := by rw [IntKind.wrap_i64]; omega
  obtain ⟨d, nd, hd, hnd, hndc⟩ := (ho19.grew hg24).reads.at0 (k := k) (by omega)
  rw [show (V.setA m.c.batch y.c).plan = V.plan from rfl, C6 hks] at hnd
  cases hnd
  rw [hd, Ab]
  have h24 := hM.at_.grew (hg17.trans hg24)
  refine ⟨⟨by omega, by omega⟩, _, Cc hndc, (Lo (m := m) (kind := 4) (to := 1 + V.plan.workers + (k : Int)) h24).use fun u w27 ⟨hv, hg27⟩ => ?_⟩
  subst hv
  refine ⟨_, _, _, _, _, _, _, _, _, _, _, _, _, _, _, rfl, fun w39 hg39 => ?_⟩
  have hgk := hg27.trans hg39
  have hA39 := (hyA.grew (hg17.trans hg24)).grew hgk
  have c2 : w39.cell? (Addr.add (⟨x.b, 0, none⟩ : Addr) 2) = some (.map (some x.pm)) := by rw [Au, hA39.row.cell]; rfl
  obtain ⟨hdr, pl, hgt, hpl, hpo⟩ := T1 hA39 hok.num hks
  have hpl' := hok.pairs _ (List.mem_of_getElem? hpl)
  rw [Ab]
  refine ⟨_, c2, E4 (F := slF) uPm uInt zSlP hA39.pmap ?_⟩
  rw [hgt]
  refine ⟨_, _, _, rfl, (Abe hpo.reads (by simp only [maxLen]; omega) (by omega)).use fun u w45 ⟨a47, l47, c47, hv, ho47, hg45⟩ => ?_⟩
  subst hv
  refine ⟨_, _, _, rfl, fun b49 w50 hal50 => ?_⟩
  let z : Msg := ⟨V.begins m.c x.c k, (none, 0, 0), (a47, l47, c47), (none, 0, 0)⟩
  have hzk : (V.begins m.c x.c k).keys = pl.map (·.key) := by unfold Ac.begins; simp only; rw [List.getD_eq_getElem?_getD, hpl]; rfl
  have hgz := hg24.trans (hgk.trans hg45)
  have hO45 := hO.grew (hgk.trans hg45)
  have hs := hgz.size
  have hzO : MO w45 w17.heap.size z := by
   refine ⟨Own.nil _ _ _ _, ?_, Own.nil _ _ _ _⟩
   simp only [z]; rw [hzk]; exact ho47.base (hg24.trans hgk).size
  refine Bc (l2 := [z]) Abv hO45.own hal50 (by simp [Enc.msg, z, Msg.vals, Ac.begins, Ac.say]; rfl) rfl hs (by simp only [maxLen, List.length_singleton]; omega) (by simp only [List.length_singleton]; omega) ?_
  rintro v52 w51 ⟨a53, l53, c53, rfl, ho53, hu53, hb53⟩
  have hother : ∀ v : Msg, MO w45 w17.heap.size v → MO w51 w17.heap.size v := fun v hv => hv.upd hu53 fun b hb hb' => by
   obtain ⟨cur, t, ht, ho⟩ := hv.obj hb
   obtain ⟨cur2, ho2⟩ := hO45.own.objC hb'
   rw [ho] at ho2
   have := (Obj.cells.inj (Option.some.inj ho2)).2.1
   rcases ht with rfl | rfl | rfl <;> revert this <;> decide
  refine ⟨_, _, _, rfl, ⟨k + 1, xs ++ [z], hw, by omega, ⟨ho53, fun v hv => ?_⟩, ?_, ?_⟩, by simp only [hw]; omega⟩
  ·rcases List.mem_append.1 hv with hv | hv
   ·exact hother v (hO45.each v hv)
   ·simp at hv; subst hv; exact hother _ hzO
  ·rw [List.map_append, hxs, List.range_succ, List.map_append]; rfl
  ·exact hgz.then_own hu53 fun b hb => (hO45.own.blk hb).1
 ·simp only [decide_eq_false_iff_not] at hge
  have : k = V.plan.stores.toNat := by omega
  subst this
  exact ⟨_, rfl, _, _, _, rfl, H8 hM0 (hg17.trans hg24) (hO.base hg17.size) hxs⟩
theorem Yo (l : List Int) (k : Int) : setM (l.map fun k => (k, ())) k () = (addN l k).map fun k => (k, ()) := by rw [Mk]; rfl
theorem Wz {p : Bd} {l : List Int} {k : Int} (h : l.Nodup ∧ ∀ k ∈ l, k ∈ A3 p) (hk : k ∈ A3 p) : (addN l k).Nodup ∧ ∀ j ∈ addN l k, j ∈ A3 p := by
 unfold addN
 split
 ·exact h
 ·rename_i hn
  refine ⟨List.nodup_append.2 ⟨h.1, by simp, fun a ha b hb e => hn (by simp at hb; rw [← hb, ← e]; exact ha)⟩, fun j hj => ?_⟩
  rcases List.mem_append.1 hj with hj | hj
  ·exact h.2 j hj
  ·simp at hj; subst hj; exact hk
theorem Yp {p : Bd} {l : List Int} (h : l.Nodup ∧ ∀ k ∈ l, k ∈ A3 p) : l.length ≤ p.stores.toNat := by
 rw [← Cj p]
 exact List.Nodup.length_le_of_subset h.1 h.2
set_option maxHeartbeats 1000000 in
theorem Yq {w : World} {B : Nat} {X : A6} {V : Ac} {m : Msg} (h : WA w B X V) (hm : m.At w) (hk3 : Ax V.plan m.c.frm = 3) (hb40 : 1 ≤ m.c.batch ∧ m.c.batch ≤ 1099511627776) :
  Aa Tryz.prog 47 [.pointer (some ⟨X.p, 0, none⟩), m.val] w (Rets (Took w B X (V.answer m.c))) := by
 refine sx47.ok ?_
 unfold sx47
 have hG := h.ok.good
 have hSt := hG.stores; have hWk := hG.workers
 obtain ⟨si, hsi, hfrm⟩ := Nh hG hk3
 have hmem : m.c.frm ∈ A3 V.plan := Ng.2 ⟨si, hsi, hfrm⟩
 intro w1 hg1
 refine (Tz (m := m) (h.grew hg1)).use fun u w2 ⟨hg2, hc⟩ => ?_
 have hg2 := hg1.trans hg2
 rcases hc with ⟨hf, rfl⟩ | ⟨x, hx, hnum, hf, rfl⟩
 ·refine ⟨_, rfl, fun b w' => b = true ∧ w' = w2, ⟨fun _ => ⟨rfl, rfl⟩, fun h => (by simp at h)⟩, ?_⟩
  rintro b w10 ⟨rfl, rfl⟩
  refine ⟨fun _ => ⟨_, rfl, none, 0, 0, rfl, ?_⟩, fun h => (by cases h)⟩
  have : V.answer m.c = (V, []) := by unfold Ac.answer; rw [hf]
  rw [this]; exact Fp h hg2
 have h2 := h.grew hg2
 obtain ⟨hA, hok, hk⟩ := h2.att hx
 have c3 : w2.cell? (Addr.add (⟨x.b, 0, none⟩ : Addr) 3) = some (.bool x.c.begun) := by rw [Au, hA.row.cell]; rfl
 refine ⟨_, rfl, fun b w' => b = !x.c.begun ∧ w' = w2, ⟨fun h => (by simp at h), fun _ => ?_⟩, ?_⟩
 ·rw [Ab]; exact ⟨_, c3, rfl, rfl⟩
 rintro b w10 ⟨rfl, rfl⟩
 refine ⟨fun hbt => ?_, fun hbf => ?_⟩
 ·have hb0 : x.c.begun = false := by simpa using hbt
  have : V.answer m.c = (V, []) := by unfold Ac.answer; rw [hf]; simp only; rw [if_pos hb0]
  rw [this]; exact ⟨_, rfl, none, 0, 0, rfl, Fp h hg2⟩
 have hb1 : ¬ x.c.begun = false := by simpa using hbf
 have hans : V.answer m.c = if m.c.code ≠ 0 then ({ V with held := delM V.held m.c.batch }, []) else if m.c.kind = 5 then (V, [{ V.say m.c 6 m.c.frm with pairs := x.c.pairs.getD (m.c.frm - 1 - V.plan.workers).toNat [] }]) else
   (V.setA m.c.batch { x.c with applied := addN x.c.applied m.c.frm }, if ((addN x.c.applied m.c.frm).length : Int) < V.plan.stores then [] else [{ V.say m.c 8 0 with ends := x.c.ends }]) := by
  unfold Ac.answer; rw [hf]; simp only; rw [if_neg hb1]
 rw [hans]
 refine ⟨fun hcode w11 hg11 => ?_, fun hcode => ⟨fun h5 => ?_, fun h5 w40 hg40 => ?_⟩⟩
 ·have hcode : m.c.code ≠ 0 := by simpa using hcode
  rw [if_pos hcode]
  have hg11 := hg2.trans hg11
  have h11 := h.grew hg11
  refine ⟨_, wMap h11, U5 (F := attF) Ty uInt h11.map fun w13 hm13 hu13 => ⟨rfl, _, rfl, none, 0, 0, rfl, ?_⟩⟩
  exact H8 (Bg.del h hg11 hm13 hu13) (Grew.refl _) (Ba.nil _ _) rfl
 ·have hcode : ¬ m.c.code ≠ 0 := by simpa using hcode
  have h5 : m.c.kind = 5 := by simpa using h5
  rw [if_neg hcode, if_pos h5]
  refine (Lo (m := m) (kind := 6) (to := m.c.frm) h2).use fun u w15 ⟨hv, hg15⟩ => ?_
  subst hv
  refine ⟨_, _, _, _, _, _, _, _, _, _, _, _, _, _, _, rfl, fun w27 hg27 w28 hg28 => ?_⟩
  have hgk := hg15.trans (hg27.trans hg28)
  have hA28 := hA.grew hgk
  have c2 : w28.cell? (Addr.add (⟨x.b, 0, none⟩ : Addr) 2) = some (.map (some x.pm)) := by rw [Au, hA28.row.cell]; rfl
  obtain ⟨hdr, pl, hgt, hpl, hpo⟩ := T1 hA28 hok.num hsi
  rw [← hfrm] at hgt
  have hpl' := hok.pairs _ (List.mem_of_getElem? hpl)
  rw [Ab]
  refine ⟨_, c2, E4 (F := slF) uPm uInt zSlP hA28.pmap ?_⟩
  rw [hgt]
  refine ⟨_, _, _, rfl, (Sc hpo.reads (by omega)).use fun u w34 ⟨a36, l36, c36, hv, ho36, hg36⟩ => ?_⟩
  subst hv
  refine ⟨_, _, _, rfl, fun b38 w39 hal39 => ⟨_, rfl, _, _, _, rfl, ?_⟩⟩
  have hidx : (m.c.frm - 1 - V.plan.workers).toNat = si := by omega
  let z : Msg := ⟨{ V.say m.c 6 m.c.frm with pairs := pl }, (none, 0, 0), (none, 0, 0), (a36, l36, c36)⟩
  have hz : MO w34 w10.heap.size z := ⟨Own.nil _ _ _ _, Own.nil _ _ _ _, ho36.base hgk.size⟩
  refine H8 (B7.still h hg2) ((hgk.trans hg36).trans hal39.grew) (J3 (hgk.trans hg36) hz hal39) ?_
  rw [hidx, List.getD_eq_getElem?_getD, hpl]; rfl
 ·have hcode : ¬ m.c.code ≠ 0 := by simpa using hcode
  have h5 : ¬ m.c.kind = 5 := by simpa using h5
  rw [if_neg hcode, if_neg h5]
  have hg40' := hg2.trans hg40
  have h40 := h.grew hg40'
  have hA40 := hA.grew hg40
  have c4 : w40.cell? (Addr.add (⟨x.b, 0, none⟩ : Addr) 4) = some (.map (some x.am)) := by rw [Au, hA40.row.cell]; rfl
  rw [Ab]
  refine ⟨_, c4, Ed (F := Kh) (x := ()) uAm uInt hA40.amap (Vl (by omega)) fun w43 hm43 hu43 w44 hg44 => ?_⟩
  rw [Yo] at hm43
  have hapok := Wz hok.app hmem
  have haplen := Yp hapok
  let y : AttX := { x with c := { x.c with applied := addN x.c.applied m.c.frm } }
  have hyA : Eg wT.A wT.I wT.P V.plan w43 B y := by
   refine ⟨hA40.row.upd hu43 fun e => hA40.amap.row_ne hA40.row e, hA40.ends.upd hu43 fun b hb e => ?_, hA40.deal.upd hu43 fun b hb e => ?_, hA40.pmap.upd hu43 hA40.ne, hm43, hA40.lo, hA40.ne⟩
   ·subst e; exact hA40.amap.own_ne hA40.ends hb
   ·subst e
    obtain ⟨cur, ho⟩ := hA40.deal.obj hb
    obtain ⟨es, ck, hmp, -⟩ := hA40.amap
    rw [ho] at hmp; cases hmp
  have hM := (Bg.chg h40 hx (y := y) rfl hu43 (fun b e => by subst e; exact ⟨.inr (.inr (.inl rfl)), fun e => hA40.amap.row_ne h40.row e.symm, hA40.amap.own_ne h40.ops⟩) hyA ⟨hok.ends, hok.num, hok.pairs, hapok⟩ (fun b hb => .inl hb)).pre hg40'
  have hy44 := hyA.grew hg44
  have h44 := hM.at_.grew hg44
  have c4' : w44.cell? (Addr.add (⟨x.b, 0, none⟩ : Addr) 4) = some (.map (some x.am)) := by rw [Au, hy44.row.cell]; rfl
  have cS : w44.cell? ⟨X.p, 1, none⟩ = some (.int .i64 V.plan.stores) := by
   have := h44.row
   rw [this.cell]; rfl
  rw [Ab]
  refine ⟨_, c4', _, cS, R4 uAm hy44.amap ?_⟩
  refine ⟨_, rfl, ⟨rfl, rfl, trivial⟩, fun hlt => ?_, fun hge => ?_⟩
  ·have hlt : ((addN x.c.applied m.c.frm).length : Int) < V.plan.stores := by simpa [y] using hlt
   rw [if_pos hlt]
   exact ⟨_, rfl, none, 0, 0, rfl, H8 hM hg44 (Ba.nil _ _) rfl⟩
  ·have hge : ¬ ((addN x.c.applied m.c.frm).length : Int) < V.plan.stores := by simpa [y] using hge
   rw [if_neg hge]
   refine (Lo (m := m) (kind := 8) (to := 0) h44).use fun u w51 ⟨hv, hg51⟩ => ?_
   subst hv
   refine ⟨_, _, _, _, _, _, _, _, _, _, _, _, _, _, _, rfl, fun w63 hg63 => ?_⟩
   have hgk := hg44.trans (hg51.trans hg63)
   have hy63 := hyA.grew hgk
   have c1 : w63.cell? (Addr.add (⟨x.b, 0, none⟩ : Addr) 1) = some (.slice x.e.1 x.e.2.1 x.e.2.2) := by rw [Au, hy63.row.cell]; rfl
   rw [Ab]
   have he4 := hok.ends.1
   refine ⟨_, _, _, c1, (Gy hy63.ends.reads (by show x.c.ends.length * 8 ≤ 140737488355328; omega)).use fun u w66 ⟨a68, l68, c68, hv, ho68, hg66⟩ => ?_⟩
   subst hv
   refine ⟨_, _, _, rfl, fun b70 w71 hal71 => ⟨_, rfl, _, _, _, rfl, ?_⟩⟩
   let z : Msg := ⟨{ V.say m.c 8 0 with ends := x.c.ends }, (a68, l68, c68), (none, 0, 0), (none, 0, 0)⟩
   have hz : MO w66 w43.heap.size z := ⟨ho68.base hgk.size, Own.nil _ _ _ _, Own.nil _ _ _ _⟩
   exact H8 hM ((hgk.trans hg66).trans hal71.grew) (J3 (hgk.trans hg66) hz hal71) rfl
def Q4 (w : World) (B : Nat) (X : A6) (r : Nf) (u : Value) (w' : World) : Prop := ∃ a n c, u = .tuple #[.slice a n c, .int .i64 r.e] ∧ Pu w B X r.w r.l a n c w'
theorem Se {w w1 w' : World} {B : Nat} {X : A6} {r : Ac × List MsgV} {u : Value} (h : Took w1 B X r u w') (hg : Grew w w1) : ∃ a n c, u = .slice a n c ∧ Rets (Q4 w B X (.of r)) (.returned (.tuple #[.slice a n c, .int .i64 0])) w' := by
 obtain ⟨a, n, c, hu, hT⟩ := h
 exact ⟨a, n, c, hu, _, rfl, a, n, c, rfl, hT.pre hg⟩
theorem T2 {w : World} {B B2 : Nat} {X : A6} {V : Ac} {m : Msg} {sx : SrcX} {s : SrcV} (h : WA w B X V) (hs : SrA w B2 sx s) (hm : m.At w) (hl1 : m.c.ends.length ≤ 9223372036854775806) (hl2 : m.c.keys.length ≤ 9223372036854775806) (hl3 : m.c.pairs.length ≤ 9223372036854775806) (hB : B ≤ w.heap.size) :
  Aa Tryz.prog 13 [.pointer (some ⟨X.p, 0, none⟩), .pointer (some ⟨sx.p, 0, none⟩), m.val] w (Rets (Q4 w B X (V.take s m.c))) := by
 refine sx13.ok ?_
 unfold sx13
 intro w1 hg1
 refine (Yg (x := m) (hm.grew hg1) hl1 hl2 hl3).use fun u w2 ⟨hv, hg2⟩ => ?_
 subst hv
 have hg2 := hg1.trans hg2
 have nilT : ∀ {y : World} {e : Int}, V.take s m.c = ⟨V, [], e⟩ → Grew w y → Rets (Q4 w B X (V.take s m.c)) (.returned (.tuple #[.slice none 0 0, .int .i64 e])) y := fun he hg => ⟨_, rfl, none, 0, 0, by rw [he], by rw [he]; exact Fp h hg⟩
 refine ⟨_, rfl, fun hs0 => nilT ?_ hg2, fun hs1 => ?_⟩
 ·have : Bl m.c = false := by simpa using hs0
  unfold Ac.take; rw [if_pos this]
 have hs1 : Bl m.c = true := by simpa using hs1
 have hsnd := (F1 _).1 hs1
 have hbat := hsnd.2.2.2.1
 have e1 : V.take s m.c = if m.c.to ≠ V.node then ⟨V, [], 170⟩ else if m.c.kind = 1 ∧ Ax V.plan m.c.frm = 1 then .of (V.assign s m.c) else if m.c.kind = 3 ∧ Ax V.plan m.c.frm = 1 then .of (V.begin m.c) else if (m.c.kind = 5 ∨ m.c.kind = 7) ∧ Ax V.plan m.c.frm = 3 then .of (V.answer m.c) else ⟨V, [], 0⟩ := by
  unfold Ac.take; rw [if_neg (by rw [hs1]; simp)]
 refine ⟨_, Aeh (h.grew hg2), fun w7 hg7 => ⟨fun hto => nilT ?_ (hg2.trans hg7), fun hto w8 hg8 => ?_⟩⟩
 ·rw [e1, if_pos (by simpa using hto)]
 have hto : ¬ m.c.to ≠ V.node := by simpa using hto
 rw [if_neg hto] at e1
 have hg8 := hg2.trans (hg7.trans hg8)
 have h8 := h.grew hg8
 obtain ⟨hpA, hpC⟩ := Ww h8
 refine ⟨_, _, _, _, _, _, _, _, _, _, hpC, (Po (x := plX X V) (n := m.c.frm) hpA).use fun u w17 ⟨hv, hg17⟩ => ?_⟩
 subst hv
 rw [show (plX X V).c = V.plan from rfl]
 have hg17 := hg8.trans hg17
 have h17 := h.grew hg17
 refine ⟨_, rfl, fun b w' => b = decide (m.c.kind = 1 ∧ Ax V.plan m.c.frm = 1) ∧ w' = w17, ⟨fun h1 => ?_, fun h1 => ?_⟩, ?_⟩
 ·have h1 : m.c.kind = 1 := by simpa using h1
  refine ⟨?_, rfl⟩; simp only [h1, true_and]; rfl
 ·have h1 : ¬ m.c.kind = 1 := by simpa using h1
  refine ⟨?_, rfl⟩; simp [h1]
 rintro b w23 ⟨rfl, rfl⟩
 refine ⟨fun ht => ?_, fun hf1 => ?_⟩
 ·have ht := of_decide_eq_true ht
  rw [if_pos ht] at e1
  refine (Yn (m := m) h17 (hs.grew hg17) (hm.grew hg17) hbat (Nat.le_trans hB hg17.size)).use fun u w24 hT => ?_
  obtain ⟨a, n, c, hu, hR⟩ := Se hT hg17
  rw [e1]; exact ⟨a, n, c, hu, hR⟩
 have hf1 := of_decide_eq_false hf1
 rw [if_neg hf1] at e1
 refine ⟨fun b w' => b = decide (m.c.kind = 3 ∧ Ax V.plan m.c.frm = 1) ∧ w' = w23, ⟨fun h1 => ?_, fun h1 => ?_⟩, ?_⟩
 ·have h1 : m.c.kind = 3 := by simpa using h1
  refine ⟨?_, rfl⟩; simp only [h1, true_and]; rfl
 ·have h1 : ¬ m.c.kind = 3 := by simpa using h1
  refine ⟨?_, rfl⟩; simp [h1]
 rintro b w30 ⟨rfl, rfl⟩
 refine ⟨fun ht => ?_, fun hf2 => ?_⟩
 ·have ht := of_decide_eq_true ht
  rw [if_pos ht] at e1
  refine (Abx (m := m) h17 (hm.grew hg17)).use fun u w24 hT => ?_
  obtain ⟨a, n, c, hu, hR⟩ := Se hT hg17
  rw [e1]; exact ⟨a, n, c, hu, hR⟩
 have hf2 := of_decide_eq_false hf2
 rw [if_neg hf2] at e1
 have ans : Ax V.plan m.c.frm = 3 → (m.c.kind = 5 ∨ m.c.kind = 7) → Aa Tryz.prog 47 [.pointer (some ⟨X.p, 0, none⟩), m.val] w30 (RetR (Rets (Q4 w B X (V.take s m.c))) fun u w' => ∃ a n c, u = .slice a n c ∧ Rets (Q4 w B X (V.take s m.c)) (.returned (.tuple #[.slice a n c, .int .i64 0])) w') := fun h3 hk => by
  rw [if_pos ⟨hk, h3⟩] at e1
  refine (Yq (m := m) h17 (hm.grew hg17) h3 hbat).use fun u w24 hT => ?_
  obtain ⟨a, n, c, hu, hR⟩ := Se hT hg17
  rw [e1]; exact ⟨a, n, c, hu, hR⟩
 have no : ¬ ((m.c.kind = 5 ∨ m.c.kind = 7) ∧ Ax V.plan m.c.frm = 3) → Rets (Q4 w B X (V.take s m.c)) (.returned (.tuple #[.slice none 0 0, .int .i64 0])) w30 := fun hn => nilT (by rw [e1, if_neg hn]) hg17
 refine ⟨fun h5 => ⟨fun h3 => ans (by simpa using h3) (.inl (by simpa using h5)), fun h3 => no fun hh => ?_⟩, fun h5 => ⟨fun h7 => ⟨fun h3 => ans (by simpa using h3) (.inr (by simpa using h7)), fun h3 => no fun hh => ?_⟩, fun h7 => no fun hh => ?_⟩⟩
 ·have : ¬ Ax V.plan m.c.frm = 3 := by simpa using h3
  exact this hh.2
 ·have : ¬ Ax V.plan m.c.frm = 3 := by simpa using h3
  exact this hh.2
 ·have h5 : ¬ m.c.kind = 5 := by simpa using h5
  have h7 : ¬ m.c.kind = 7 := by simpa using h7
  exact hh.1.elim h5 h7
end Go.Proofs.YtcpkneemhfnanaaGreat
