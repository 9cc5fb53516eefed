/- What the law's own functions hand back: comparisons, awake. Conditions: none. -/
import Derived.Test.YtcpkneemhfnanaaGreatProg
import Derived.Test.YtcpkneemhfnanaaGreatRefF
namespace Go.Proofs.YtcpkneemhfnanaaGreat
open Go.Sx
set_option maxRecDepth 100000
set_option linter.unusedVariables false
set_option linter.unusedSimpArgs false
def sx27 (a : Option Addr) (a_n a_c : Nat) (b : Option Addr) (b_n b_c : Nat) (R : Ending → World → Prop) (w : World) : Prop :=
 ifB (((a_n : Nat) : Int) != ((b_n : Nat) : Int)) (R (.returned (.bool false)) w) (∃ (I1 : Int → World → Prop) (m1 : Int → World → Nat), I1 0 w ∧ ∀ n2 w3, I1 n2 w3 → ifB (decide (n2 < ((a_n : Nat) : Int))) (Ab a (fun d4 => (0 ≤ n2 ∧ n2 < (a_n : Nat)) ∧ ∃ n5, w3.cell? (Addr.add d4 (n2.toNat * 1)) = some (.int .i64 n5) ∧ Ab b (fun d6 => (0 ≤ n2 ∧ n2 < (b_n : Nat)) ∧ ∃ n7, w3.cell? (Addr.add d6 (n2.toNat * 1)) = some (.int .i64 n7) ∧ ∀ w8, Grew w3 w8 → ifB (n5 != n7) (R (.returned (.bool false)) w8) ((I1 (IntKind.i64.wrap (n2 + 1)) w8 ∧ m1 (IntKind.i64.wrap (n2 + 1)) w8 < m1 n2 w3))))) (R (.returned (.bool true)) w3))
theorem sx27.ok {a : Option Addr} {a_n a_c : Nat} {b : Option Addr} {b_n b_c : Nat} {R : Ending → World → Prop} {w : World} (h : sx27 a a_n a_c b b_n b_c R w) : Aa Tryz.prog 27 [.slice a a_n a_c, .slice b b_n b_c] w R :=
 okOf { loops := [(4, { slots := [(5, .int .i64)], cells := [] })] } mix Tryz.func27 (by kernel_rfl) (by kernel_rfl) (by kernel_rfl) h
def sx29 (a : Option Addr) (a_n a_c : Nat) (b : Option Addr) (b_n b_c : Nat) (R : Ending → World → Prop) (w : World) : Prop :=
 ifB (((a_n : Nat) : Int) != ((b_n : Nat) : Int)) (R (.returned (.bool false)) w) (∃ (I1 : Int → World → Prop) (m1 : Int → World → Nat), I1 0 w ∧ ∀ n2 w3, I1 n2 w3 → ifB (decide (n2 < ((a_n : Nat) : Int))) (Ab a (fun d4 => (0 ≤ n2 ∧ n2 < (a_n : Nat)) ∧ ∃ n5, w3.cell? (Addr.add d4 (n2.toNat * 1)) = some (.int .u64 n5) ∧ Ab b (fun d6 => (0 ≤ n2 ∧ n2 < (b_n : Nat)) ∧ ∃ n7, w3.cell? (Addr.add d6 (n2.toNat * 1)) = some (.int .u64 n7) ∧ ∀ w8, Grew w3 w8 → ifB (n5 != n7) (R (.returned (.bool false)) w8) ((I1 (IntKind.i64.wrap (n2 + 1)) w8 ∧ m1 (IntKind.i64.wrap (n2 + 1)) w8 < m1 n2 w3))))) (R (.returned (.bool true)) w3))
theorem sx29.ok {a : Option Addr} {a_n a_c : Nat} {b : Option Addr} {b_n b_c : Nat} {R : Ending → World → Prop} {w : World} (h : sx29 a a_n a_c b b_n b_c R w) : Aa Tryz.prog 29 [.slice a a_n a_c, .slice b b_n b_c] w R :=
 okOf { loops := [(4, { slots := [(5, .int .i64)], cells := [] })] } mix Tryz.func29 (by kernel_rfl) (by kernel_rfl) (by kernel_rfl) h
def sx28 (a : Option Addr) (a_n a_c : Nat) (b : Option Addr) (b_n b_c : Nat) (R : Ending → World → Prop) (w : World) : Prop :=
 ifB (((a_n : Nat) : Int) != ((b_n : Nat) : Int)) (R (.returned (.bool false)) w) (∃ (I1 : Int → World → Prop) (m1 : Int → World → Nat), I1 0 w ∧ ∀ n2 w3, I1 n2 w3 → ifB (decide (n2 < ((a_n : Nat) : Int))) (Ab a (fun d4 => (0 ≤ n2 ∧ n2 < (a_n : Nat)) ∧ ∃ n5 b6 n7, Ae w3 (Addr.add d4 (n2.toNat * 3)) 0 [.int .u64 n5, .bool b6, .int .u64 n7] ∧ Ab b (fun d8 => (0 ≤ n2 ∧ n2 < (b_n : Nat)) ∧ ∃ n9 b10 n11, Ae w3 (Addr.add d8 (n2.toNat * 3)) 0 [.int .u64 n9, .bool b10, .int .u64 n11] ∧ ∃ b12, Ao Tryz.prog (eqS .neq 83 (.tmp 20) (.tmp 24) (.agg #[.int .u64 n5, .bool b6, .int .u64 n7]) (.agg #[.int .u64 n9, .bool b10, .int .u64 n11])) (.bool b12) ∧ ∀ w13, Grew w3 w13 → ifB b12 (R (.returned (.bool false)) w13) ((I1 (IntKind.i64.wrap (n2 + 1)) w13 ∧ m1 (IntKind.i64.wrap (n2 + 1)) w13 < m1 n2 w3))))) (R (.returned (.bool true)) w3))
theorem sx28.ok {a : Option Addr} {a_n a_c : Nat} {b : Option Addr} {b_n b_c : Nat} {R : Ending → World → Prop} {w : World} (h : sx28 a a_n a_c b b_n b_c R w) : Aa Tryz.prog 28 [.slice a a_n a_c, .slice b b_n b_c] w R :=
 okOf { pureTo := [25], loops := [(4, { slots := [(5, .int .i64)], cells := [] })] } mix Tryz.func28 (by kernel_rfl) (by kernel_rfl) (by kernel_rfl) h
def sx15 (d : Option Addr) (d_n d_c : Nat) (i : Option Addr) (i_n i_c : Nat) (R : Ending → World → Prop) (w : World) : Prop :=
 ifB (((d_n : Nat) : Int) != ((i_n : Nat) : Int)) (R (.returned (.bool false)) w) (∃ (I1 : Int → World → Prop) (m1 : Int → World → Nat), I1 0 w ∧ ∀ n2 w3, I1 n2 w3 → ifB (decide (n2 < ((d_n : Nat) : Int))) (Ab d (fun d4 => (0 ≤ n2 ∧ n2 < (d_n : Nat)) ∧ ∃ n5 n6 n7 n8 n9 n10 a11 l11 c11 a12 l12 c12 a13 l13 c13, Ae w3 (Addr.add d4 (n2.toNat * 9)) 0 [.int .i64 n5, .int .i64 n6, .int .i64 n7, .int .i64 n8, .int .i64 n9, .int .i64 n10, .slice a11 l11 c11, .slice a12 l12 c12, .slice a13 l13 c13] ∧ ∀ w14, Grew w3 w14 → Ab i (fun d15 => (0 ≤ n2 ∧ n2 < (i_n : Nat)) ∧ ∃ n16 n17 n18 n19 n20 n21 a22 l22 c22 a23 l23 c23 a24 l24 c24, Ae w14 (Addr.add d15 (n2.toNat * 9)) 0 [.int .i64 n16, .int .i64 n17, .int .i64 n18, .int .i64 n19, .int .i64 n20, .int .i64 n21, .slice a22 l22 c22, .slice a23 l23 c23, .slice a24 l24 c24] ∧ ∀ w25, Grew w14 w25 → ifB (n5 != n16) (R (.returned (.bool false)) w25) (ifB (n6 != n17) (R (.returned (.bool false)) w25) (ifB (n7 != n18) (R (.returned (.bool false)) w25) (ifB (n8 != n19) (R (.returned (.bool false)) w25) (ifB (n9 != n20) (R (.returned (.bool false)) w25) (ifB (n10 != n21) (R (.returned (.bool false)) w25) (Aa Tryz.prog 27 [.slice a11 l11 c11, .slice a22 l22 c22] w25 (RetR R fun u27 w26 => ∃ b28, u27 = .bool b28 ∧ ifB (!b28) (R (.returned (.bool false)) w26) (Aa Tryz.prog 29 [.slice a12 l12 c12, .slice a23 l23 c23] w26 (RetR R fun u31 w30 => ∃ b32, u31 = .bool b32 ∧ ifB (!b32) (R (.returned (.bool false)) w30) (Aa Tryz.prog 28 [.slice a13 l13 c13, .slice a24 l24 c24] w30 (RetR R fun u35 w34 => ∃ b36, u35 = .bool b36 ∧ ifB (!b36) (R (.returned (.bool false)) w34) ((I1 (IntKind.i64.wrap (n2 + 1)) w34 ∧ m1 (IntKind.i64.wrap (n2 + 1)) w34 < m1 n2 w3)))))))))))))))) (R (.returned (.bool true)) w3))
theorem sx15.ok {d : Option Addr} {d_n d_c : Nat} {i : Option Addr} {i_n i_c : Nat} {R : Ending → World → Prop} {w : World} (h : sx15 d d_n d_c i i_n i_c R w) : Aa Tryz.prog 15 [.slice d d_n d_c, .slice i i_n i_c] w R :=
 okOf { locals := [6, 7], loops := [(4, { slots := [(5, .int .i64)], cells := [] })] } mix Tryz.func15 (by kernel_rfl) (by kernel_rfl) (by kernel_rfl) h
def sx20 (d : Option Addr) (d_n d_c : Nat) (i : Option Addr) (i_n i_c : Nat) (R : Ending → World → Prop) (w : World) : Prop :=
 ifB (((d_n : Nat) : Int) != ((i_n : Nat) : Int)) (R (.returned (.bool false)) w) (∃ (I1 : Int → World → Prop) (m1 : Int → World → Nat), I1 0 w ∧ ∀ n2 w3, I1 n2 w3 → ifB (decide (n2 < ((d_n : Nat) : Int))) (∀ w4, Grew w3 w4 → Ab d (fun d5 => (0 ≤ n2 ∧ n2 < (d_n : Nat)) ∧ ∃ n6, w4.cell? (Addr.add d5 (n2.toNat * 5)) = some (.int .i64 n6) ∧ Ab i (fun d7 => (0 ≤ n2 ∧ n2 < (i_n : Nat)) ∧ ∃ n8, w4.cell? (Addr.add d7 (n2.toNat * 5)) = some (.int .i64 n8) ∧ ifB (n6 != n8) (R (.returned (.bool false)) w4) (Ab d (fun d9 => (0 ≤ n2 ∧ n2 < (d_n : Nat)) ∧ ∃ n10, w4.cell? (Addr.add (Addr.add d9 (n2.toNat * 5)) 1) = some (.int .i64 n10) ∧ Ab i (fun d11 => (0 ≤ n2 ∧ n2 < (i_n : Nat)) ∧ ∃ n12, w4.cell? (Addr.add (Addr.add d11 (n2.toNat * 5)) 1) = some (.int .i64 n12) ∧ ifB (n10 != n12) (R (.returned (.bool false)) w4) (Ab d (fun d13 => (0 ≤ n2 ∧ n2 < (d_n : Nat)) ∧ ∃ b14, w4.cell? (Addr.add (Addr.add d13 (n2.toNat * 5)) 3) = some (.bool b14) ∧ Ab i (fun d15 => (0 ≤ n2 ∧ n2 < (i_n : Nat)) ∧ ∃ b16, w4.cell? (Addr.add (Addr.add d15 (n2.toNat * 5)) 3) = some (.bool b16) ∧ ifB (!(b14 == b16)) (R (.returned (.bool false)) w4) (Ab d (fun d17 => (0 ≤ n2 ∧ n2 < (d_n : Nat)) ∧ ∃ n18, w4.cell? (Addr.add (Addr.add d17 (n2.toNat * 5)) 4) = some (.int .i64 n18) ∧ Ab i (fun d19 => (0 ≤ n2 ∧ n2 < (i_n : Nat)) ∧ ∃ n20, w4.cell? (Addr.add (Addr.add d19 (n2.toNat * 5)) 4) = some (.int .i64 n20) ∧ ifB (n18 != n20) (R (.returned (.bool false)) w4) (Ab d (fun d21 => (0 ≤ n2 ∧ n2 < (d_n : Nat)) ∧ ∃ a22 l22 c22, w4.cell? (Addr.add (Addr.add d21 (n2.toNat * 5)) 2) = some (.slice a22 l22 c22) ∧ Ab i (fun d23 => (0 ≤ n2 ∧ n2 < (i_n : Nat)) ∧ ∃ a24 l24 c24, w4.cell? (Addr.add (Addr.add d23 (n2.toNat * 5)) 2) = some (.slice a24 l24 c24) ∧ Aa Tryz.prog 27 [.slice a22 l22 c22, .slice a24 l24 c24] w4 (RetR R fun u26 w25 => ∃ b27, u26 = .bool b27 ∧ Ad w4 w25 [(Addr.add (Addr.add d23 (n2.toNat * 5)) 2), (Addr.add (Addr.add d21 (n2.toNat * 5)) 2), (Addr.add (Addr.add d19 (n2.toNat * 5)) 4), (Addr.add (Addr.add d17 (n2.toNat * 5)) 4), (Addr.add (Addr.add d15 (n2.toNat * 5)) 3), (Addr.add (Addr.add d13 (n2.toNat * 5)) 3), (Addr.add (Addr.add d11 (n2.toNat * 5)) 1), (Addr.add (Addr.add d9 (n2.toNat * 5)) 1), (Addr.add d7 (n2.toNat * 5)), (Addr.add d5 (n2.toNat * 5))] ∧ ifB (!b27) (R (.returned (.bool false)) w25) ((I1 (IntKind.i64.wrap (n2 + 1)) w25 ∧ m1 (IntKind.i64.wrap (n2 + 1)) w25 < m1 n2 w3)))))))))))))))))) (R (.returned (.bool true)) w3))
theorem sx20.ok {d : Option Addr} {d_n d_c : Nat} {i : Option Addr} {i_n i_c : Nat} {R : Ending → World → Prop} {w : World} (h : sx20 d d_n d_c i i_n i_c R w) : Aa Tryz.prog 20 [.slice d d_n d_c, .slice i i_n i_c] w R :=
 okOf { draws := [(6, { order := (ol [0,1,2,3,4,5,6,7,8,9,10,11,12,13,14,15,16,17,18,19,20,21,22,23,24,25,26,27,28,29,30,31,32,33,34,35,36,37,38,39,40,41,42,43,44,45,46,47,48,49,50,51,52,53,54,55,56,57,58,59,60,61,62,63] .nil), bars := [] })], loops := [(4, { slots := [(5, .int .i64)], cells := [] })] } mix Tryz.func20 (by kernel_rfl) (by kernel_rfl) (by kernel_rfl) h
def sx37  (R : Ending → World → Prop) (w : World) : Prop :=
 ∀ w1, Grew w w1 → R (.returned (.agg #[.int .i64 1, .int .i64 2, .int .i64 1, .slice none 0 0, .int .i64 1, .int .i64 2, .int .i64 1, .int .i64 8])) w1
theorem sx37.ok  {R : Ending → World → Prop} {w : World} (h : sx37  R w) : Aa Tryz.prog 37 [] w R :=
 okOf { locals := [0] } mix Tryz.func37 (by kernel_rfl) (by kernel_rfl) (by kernel_rfl) h
def sx8  (R : Ending → World → Prop) (w : World) : Prop :=
  Aa Tryz.prog 11 [.int .i64 1, .slice none 0 0] w (RetR R fun u2 w1 => ∃ p3 n4, u2 = .tuple #[.pointer p3, .int .i64 n4] ∧ Aa Tryz.prog 37 [] w1 (RetR R fun u7 w6 => ∃ n8 n9 n10 a11 l11 c11 n12 n13 n14 n15, u7 = .agg #[.int .i64 n8, .int .i64 n9, .int .i64 n10, .slice a11 l11 c11, .int .i64 n12, .int .i64 n13, .int .i64 n14, .int .i64 n15] ∧ Aa Tryz.prog 9 [.agg #[.int .i64 n8, .int .i64 n9, .int .i64 n10, .slice a11 l11 c11, .int .i64 n12, .int .i64 n13, .int .i64 n14, .int .i64 n15], .int .i64 1] w6 (RetR R fun u18 w17 => ∃ p19 n20, u18 = .tuple #[.pointer p19, .int .i64 n20] ∧ ifB (Option.isNone p3) (R (.returned (.bool false)) w17) (ifB (Option.isNone p19) (R (.returned (.bool false)) w17) (ifB (n4 != 0) (R (.returned (.bool false)) w17) (ifB (n20 != 0) (R (.returned (.bool false)) w17) (Aa Tryz.prog 16 [.pointer p3, .int .i64 0, .agg #[.int .u64 1, .float .f64 4617315517961601024]] w17 (RetR R fun u23 w22 => ∃ n24, u23 = .int .i64 n24 ∧ Aa Tryz.prog 16 [.pointer p3, .int .i64 0, .agg #[.int .u64 2, .float .f64 4617315517961601024]] w22 (RetR R fun u27 w26 => ∃ n28, u27 = .int .i64 n28 ∧ Aa Tryz.prog 16 [.pointer p3, .int .i64 0, .agg #[.int .u64 1, .float .f64 4618441417868443648]] w26 (RetR R fun u31 w30 => ∃ n32, u31 = .int .i64 n32 ∧ ∀ b34 w35, Ag w30 w35 b34 (.cells #[.int .i64 0] 3) → Aa Tryz.prog 13 [.pointer p19, .pointer p3, .agg #[.int .i64 1, .int .i64 0, .int .i64 1, .int .i64 1, .int .i64 4, .int .i64 0, .slice (some ⟨b34, 0, none⟩) 1 1, .slice none 0 0, .slice none 0 0]] w35 (RetR R fun u37 w36 => ∃ a38 l38 c38 n39, u37 = .tuple #[.slice a38 l38 c38, .int .i64 n39] ∧ ∀ b41 w42, Ag w36 w42 b41 (.cells #[.int .i64 2] 3) → Aa Tryz.prog 13 [.pointer p19, .pointer p3, .agg #[.int .i64 3, .int .i64 0, .int .i64 1, .int .i64 1, .int .i64 4, .int .i64 0, .slice (some ⟨b41, 0, none⟩) 1 1, .slice none 0 0, .slice none 0 0]] w42 (RetR R fun u44 w43 => ∃ a45 l45 c45 n46, u44 = .tuple #[.slice a45 l45 c45, .int .i64 n46] ∧ Aa Tryz.prog 13 [.pointer p19, .pointer p3, .agg #[.int .i64 5, .int .i64 3, .int .i64 1, .int .i64 1, .int .i64 4, .int .i64 0, .slice none 0 0, .slice none 0 0, .slice none 0 0]] w43 (RetR R fun u49 w48 => ∃ a50 l50 c50 n51, u49 = .tuple #[.slice a50 l50 c50, .int .i64 n51] ∧ ifB (n39 == 0) (ifB (n46 == 0) (ifB (n51 == 0) (∀ b53 w54, Ag w48 w54 b53 (.cells #[.int .i64 2] 3) → ∀ b55 w56, Ag w54 w56 b55 (.cells #[.int .i64 2, .int .i64 1, .int .i64 0, .int .i64 1, .int .i64 4, .int .i64 0, .slice (some ⟨b53, 0, none⟩) 1 1, .slice none 0 0, .slice none 0 0] 48) → Aa Tryz.prog 15 [.slice a38 l38 c38, .slice (some ⟨b55, 0, none⟩) 1 1] w56 (RetR R fun u58 w57 => ∃ b59, u58 = .bool b59 ∧ ifB b59 (∀ b61 w62, Ag w57 w62 b61 (.cells #[.int .u64 2] 40) → ∀ b63 w64, Ag w62 w64 b63 (.cells #[.int .u64 1] 40) → ∀ b65 w66, Ag w64 w66 b65 (.cells #[.int .i64 4, .int .i64 1, .int .i64 2, .int .i64 1, .int .i64 4, .int .i64 0, .slice none 0 0, .slice (some ⟨b61, 0, none⟩) 1 1, .slice none 0
 0, .int .i64 4, .int .i64 1, .int .i64 3, .int .i64 1, .int .i64 4, .int .i64 0, .slice none 0 0, .slice (some ⟨b63, 0, none⟩) 1 1, .slice none 0 0] 48) → Aa Tryz.prog 15 [.slice a45 l45 c45, .slice (some ⟨b65, 0, none⟩) 2 2] w66 (RetR R fun u68 w67 => ∃ b69, u68 = .bool b69 ∧ ifB b69 (∀ b71 w72, Ag w67 w72 b71 (.cells #[.int .u64 1, .bool true, .int .u64 1] 83) → ∀ b73 w74, Ag w72 w74 b73 (.cells #[.int .i64 6, .int .i64 1, .int .i64 3, .int .i64 1, .int .i64 4, .int .i64 0, .slice none 0 0, .slice none 0 0, .slice (some ⟨b71, 0, none⟩) 1 1] 48) → Aa Tryz.prog 15 [.slice a50 l50 c50, .slice (some ⟨b73, 0, none⟩) 1 1] w74 (RetR R fun u76 w75 => ∃ b77, u76 = .bool b77 ∧ ifB b77 (Aa Tryz.prog 21 [.pointer p19] w75 (RetR R fun u80 w79 => ∃ a81 l81 c81, u80 = .slice a81 l81 c81 ∧ ∀ b83 w84, Ag w79 w84 b83 (.cells #[.int .i64 2] 3) → ∀ b85 w86, Ag w84 w86 b85 (.cells #[.int .i64 1, .int .i64 4, .slice (some ⟨b83, 0, none⟩) 1 1, .bool true, .int .i64 0] 74) → Aa Tryz.prog 20 [.slice a81 l81 c81, .slice (some ⟨b85, 0, none⟩) 1 1] w86 (RetR R fun u88 w87 => ∃ b89, u88 = .bool b89 ∧ R (.returned (.bool b89)) w87))) (R (.returned (.bool false)) w75))) (R (.returned (.bool false)) w67))) (R (.returned (.bool false)) w57))) (R (.returned (.bool false)) w48)) (R (.returned (.bool false)) w48)) (R (.returned (.bool false)) w48))))))))))))))
theorem sx8.ok  {R : Ending → World → Prop} {w : World} (h : sx8  R w) : Aa Tryz.prog 8 [] w R :=
 okOf {} mix Tryz.func8 (by kernel_rfl) (by kernel_rfl) (by kernel_rfl) h
theorem Xa {w : World} {d : Addr} {k : Nat} {x : Int} (h : Ae w (d.add (k * (Enc.int .u64).sz)) 0 ((Enc.int .u64).f x)) : w.cell? (Addr.add d (((k : Nat) : Int).toNat * 1)) = some (.int .u64 x) := by
 have := Ai h 0 _ rfl
 simpa [Enc.int, Addr.add_zero'] using this
theorem Xb {a b : Option Addr} {n c m d : Nat} {l r : List Int} {w : World} (hr : Reads w (Enc.int .i64) (a, n, c) l) (hi : Reads w (Enc.int .i64) (b, m, d) r) (hl : l.length ≤ 9223372036854775806) :
  Aa Tryz.prog 27 [.slice a n c, .slice b m d] w (Rets fun u w' => u = .bool (decide (l = r)) ∧ Grew w w') := by
 refine sx27.ok ?_
 unfold sx27
 have hn : n = l.length := hr.2.1
 subst hn
 have hm : m = r.length := hi.2.1
 subst hm
 refine ⟨fun hne => ⟨_, rfl, ?_, Grew.refl _⟩, fun heq => ?_⟩
 ·have : ¬ l = r := fun e => by rw [e] at hne; simp at hne
  rw [decide_eq_false this]
 have hlen : l.length = r.length := by simp at heq; omega
 refine ⟨fun i w' => ∃ k : Nat, i = k ∧ k ≤ l.length ∧ l.take k = r.take k ∧ Grew w w', fun i _ => l.length - i.toNat, ⟨0, rfl, Nat.zero_le _, rfl, Grew.refl _⟩, ?_⟩
 rintro n2 w3 ⟨k, rfl, hk, hall, hg3⟩
 refine ⟨fun hlt => ?_, fun hge => ?_⟩
 ·simp only [decide_eq_true_eq] at hlt
  obtain ⟨d1, e, rfl, he, hc⟩ := (hr.grew hg3).at0 (k := k) (by omega)
  obtain ⟨d2, f, rfl, hf, hc2⟩ := (hi.grew hg3).at0 (k := k) (by omega)
  have hw : IntKind.i64.wrap ((k : Int) + 1) = ((k + 1 : Nat) : Int) := by rw [IntKind.wrap_i64]; omega
  refine ⟨⟨by omega, by omega⟩, _, Cc hc, ⟨by omega, by omega⟩, _, Cc hc2, fun w8 hg8 => ⟨fun hne => ⟨_, rfl, ?_, hg3.trans hg8⟩, fun h1 => ⟨⟨k + 1, hw, by omega, ?_, hg3.trans hg8⟩, by simp only [hw]; omega⟩⟩⟩
  ·have : ¬ l = r := fun e' => by rw [e', hf] at he; cases he; simp at hne
   rw [decide_eq_false this]
  ·have : e = f := by simpa using h1
   rw [Ak he, Ak hf, hall, this]
 ·simp only [decide_eq_false_iff_not] at hge
  refine ⟨_, rfl, ?_, hg3⟩
  rw [List.take_of_length_le (by omega), List.take_of_length_le (by omega)] at hall
  rw [decide_eq_true hall]
theorem Ack {a b : Option Addr} {n c m d : Nat} {l r : List Int} {w : World} (hr : Reads w (Enc.int .u64) (a, n, c) l) (hi : Reads w (Enc.int .u64) (b, m, d) r) (hl : l.length ≤ 9223372036854775806) :
  Aa Tryz.prog 29 [.slice a n c, .slice b m d] w (Rets fun u w' => u = .bool (decide (l = r)) ∧ Grew w w') := by
 refine sx29.ok ?_
 unfold sx29
 have hn : n = l.length := hr.2.1
 subst hn
 have hm : m = r.length := hi.2.1
 subst hm
 refine ⟨fun hne => ⟨_, rfl, ?_, Grew.refl _⟩, fun heq => ?_⟩
 ·have : ¬ l = r := fun e => by rw [e] at hne; simp at hne
  rw [decide_eq_false this]
 have hlen : l.length = r.length := by simp at heq; omega
 refine ⟨fun i w' => ∃ k : Nat, i = k ∧ k ≤ l.length ∧ l.take k = r.take k ∧ Grew w w', fun i _ => l.length - i.toNat, ⟨0, rfl, Nat.zero_le _, rfl, Grew.refl _⟩, ?_⟩
 rintro n2 w3 ⟨k, rfl, hk, hall, hg3⟩
 refine ⟨fun hlt => ?_, fun hge => ?_⟩
 ·simp only [decide_eq_true_eq] at hlt
  obtain ⟨d1, e, rfl, he, hc⟩ := (hr.grew hg3).at0 (k := k) (by omega)
  obtain ⟨d2, f, rfl, hf, hc2⟩ := (hi.grew hg3).at0 (k := k) (by omega)
  have hw : IntKind.i64.wrap ((k : Int) + 1) = ((k + 1 : Nat) : Int) := by rw [IntKind.wrap_i64]; omega
  refine ⟨⟨by omega, by omega⟩, _, Xa hc, ⟨by omega, by omega⟩, _, Xa hc2, fun w8 hg8 => ⟨fun hne => ⟨_, rfl, ?_, hg3.trans hg8⟩, fun h1 => ⟨⟨k + 1, hw, by omega, ?_, hg3.trans hg8⟩, by simp only [hw]; omega⟩⟩⟩
  ·have : ¬ l = r := fun e' => by rw [e', hf] at he; cases he; simp at hne
   rw [decide_eq_false this]
  ·have : e = f := by simpa using h1
   rw [Ak he, Ak hf, hall, this]
 ·simp only [decide_eq_false_iff_not] at hge
  refine ⟨_, rfl, ?_, hg3⟩
  rw [List.take_of_length_le (by omega), List.take_of_length_le (by omega)] at hall
  rw [decide_eq_true hall]
def P9 (x y : Am) : Bool := (x.key == y.key) && ((x.has == y.has && (x.bits == y.bits && true)) && true)
theorem Sk (x y : Am) : P9 x y = decide (x = y) := by
 rw [Bool.eq_iff_iff, decide_eq_true_eq]
 unfold P9
 cases x; cases y
 simp
theorem Zc {x y : Am} {p q : Operand} : Ao Tryz.prog (eqS .neq 83 p q (.agg #[.int .u64 x.key, .bool x.has, .int .u64 x.bits]) (.agg #[.int .u64 y.key, .bool y.has, .int .u64 y.bits])) (.bool (!decide (x = y))) := by
 rw [← Sk]
 exact Adf (b := P9 x y) (by kernel_rfl) (by kernel_rfl)
theorem Zd {a b : Option Addr} {n c m d : Nat} {l r : List Am} {w : World} (ha : Reads w Enc.pair (a, n, c) l) (hb : Reads w Enc.pair (b, m, d) r) (hl : l.length ≤ 9223372036854775806) :
  Aa Tryz.prog 28 [.slice a n c, .slice b m d] w (Rets fun v w' => v = .bool (decide (l = r)) ∧ Grew w w') := by
 refine sx28.ok ?_
 unfold sx28
 have hn : n = l.length := ha.2.1
 have hm : m = r.length := hb.2.1
 subst hn; subst hm
 refine ⟨fun h => ⟨_, rfl, ?_, Grew.refl _⟩, fun h => ?_⟩
 ·congr 1; symm; rw [decide_eq_false_iff_not]; rintro rfl; simp at h
 have hlr : l.length = r.length := by simp at h; omega
 refine ⟨fun i w' => ∃ k : Nat, i = k ∧ k ≤ l.length ∧ l.take k = r.take k ∧ Grew w w', fun i _ => l.length - i.toNat, ⟨0, rfl, Nat.zero_le _, rfl, Grew.refl _⟩, ?_⟩
 rintro i w3 ⟨k, rfl, hk, ht, hg3⟩
 refine ⟨fun hlt => ?_, fun hge => ?_⟩
 ·simp only [decide_eq_true_eq] at hlt
  obtain ⟨da, x, rfl, hx, hxc⟩ := (ha.grew hg3).at0 (k := k) (by omega)
  obtain ⟨db, y, rfl, hy, hyc⟩ := (hb.grew hg3).at0 (k := k) (by omega)
  have hw : IntKind.i64.wrap ((k : Int) + 1) = ((k + 1 : Nat) : Int) := by rw [IntKind.wrap_i64]; omega
  rw [hw]
  refine ⟨⟨by omega, by omega⟩, _, _, _, (pair_cells hxc).1, ⟨by omega, by omega⟩, _, _, _, (pair_cells hyc).1, _, Zc, fun w13 hg13 => ⟨fun hne => ⟨_, rfl, ?_, hg3.trans hg13⟩, fun heq => ⟨⟨k + 1, rfl, by omega, ?_, hg3.trans hg13⟩, by show l.length - (((k + 1 : Nat) : Int)).toNat < l.length - ((k : Int)).toNat; omega⟩⟩⟩
  ·congr 1; symm; rw [decide_eq_false_iff_not]; rintro rfl
   rw [hx] at hy; cases hy; simp at hne
  ·have : x = y := by simpa using heq
   rw [Ak hx, Ak hy, ht, this]
 ·simp only [decide_eq_false_iff_not] at hge
  rw [List.take_of_length_le (by omega), List.take_of_length_le (by omega)] at ht
  exact ⟨_, rfl, by rw [ht]; simp, hg3⟩
def Ex (w : World) (a : Option Addr) (n c : Nat) (xs : List Msg) : Prop := Reads w Enc.msg (a, n, c) xs ∧ ∀ x ∈ xs, x.At w ∧ x.c.ends.length ≤ 1048576 ∧ x.c.keys.length ≤ 1048576 ∧ x.c.pairs.length ≤ 1048576
theorem Ex.grew {w w' : World} {a : Option Addr} {n c : Nat} {xs : List Msg} (h : Ex w a n c xs) (hg : Grew w w') : Ex w' a n c xs := ⟨h.1.grew hg, fun x hx => ⟨(h.2 x hx).1.grew hg, (h.2 x hx).2⟩⟩
theorem Nw {a b : Option Addr} {n c m d : Nat} {xs ys : List Msg} {w : World} (hx : Ex w a n c xs) (hy : Ex w b m d ys) (he : xs.map (·.c) = ys.map (·.c)) (hl : xs.length ≤ 1048576) :
  Aa Tryz.prog 15 [.slice a n c, .slice b m d] w (Rets fun u w' => u = .bool true ∧ Grew w w') := by
 refine sx15.ok ?_
 unfold sx15
 have hn : n = xs.length := hx.1.2.1
 subst hn
 have hm : m = ys.length := hy.1.2.1
 subst hm
 have hlen : xs.length = ys.length := by have := congrArg List.length he; simpa using this
 refine ⟨fun hne => ?_, fun _ => ?_⟩
 ·rw [hlen] at hne; simp at hne
 refine ⟨fun i w' => ∃ k : Nat, i = k ∧ k ≤ xs.length ∧ Grew w w', fun i _ => xs.length - i.toNat, ⟨0, rfl, Nat.zero_le _, Grew.refl _⟩, ?_⟩
 rintro n2 w3 ⟨k, rfl, hk, hg3⟩
 refine ⟨fun hlt => ?_, fun _ => ⟨_, rfl, rfl, hg3⟩⟩
 simp only [decide_eq_true_eq] at hlt
 have hw : IntKind.i64.wrap ((k : Int) + 1) = ((k + 1 : Nat) : Int) := by rw [IntKind.wrap_i64]; omega
 obtain ⟨d1, x, rfl, hxk, hxc⟩ := (hx.grew hg3).1.at0 (k := k) (by omega)
 have hxa := (hx.grew hg3).2 x (List.mem_of_getElem? hxk)
 refine ⟨⟨by omega, by omega⟩, _, _, _, _, _, _, _, _, _, _, _, _, _, _, _, hxc, fun w14 hg14 => ?_⟩
 obtain ⟨d2, y, rfl, hyk, hyc⟩ := (hy.grew (hg3.trans hg14)).1.at0 (k := k) (by omega)
 have hya := (hy.grew (hg3.trans hg14)).2 y (List.mem_of_getElem? hyk)
 have hc : x.c = y.c := by
  have h1 : (xs.map (·.c))[k]? = some x.c := by rw [List.getElem?_map, hxk]; rfl
  have h2 : (ys.map (·.c))[k]? = some y.c := by rw [List.getElem?_map, hyk]; rfl
  rw [he, h2] at h1; exact (Option.some.inj h1).symm
 have hxa14 := hxa.1.grew hg14
 refine ⟨⟨by omega, by omega⟩, _, _, _, _, _, _, _, _, _, _, _, _, _, _, _, hyc, fun w25 hg25 => ?_⟩
 have X := hxa14.grew hg25
 have Y := hya.1.grew hg25
 rw [hc]
 refine ⟨fun h => (by simp at h), fun _ => ⟨fun h => (by simp at h), fun _ => ⟨fun h => (by simp at h), fun _ => ⟨fun h => (by simp at h), fun _ => ⟨fun h => (by simp at h), fun _ => ⟨fun h => (by simp at h), fun _ => ?_⟩⟩⟩⟩⟩⟩
 refine (Xb X.e Y.e (by omega)).use fun u w26 ⟨hv, hg26⟩ => ?_
 subst hv
 refine ⟨_, rfl, fun h => (by rw [hc] at h; simp at h), fun _ => (Ack (X.k.grew hg26) (Y.k.grew hg26) (by omega)).use fun u w30 ⟨hv, hg30⟩ => ?_⟩
 subst hv
 refine ⟨_, rfl, fun h => (by rw [hc] at h; simp at h), fun _ => (Zd ((X.p.grew hg26).grew hg30) ((Y.p.grew hg26).grew hg30) (by omega)).use fun u w34 ⟨hv, hg34⟩ => ?_⟩
 subst hv
 exact ⟨_, rfl, fun h => (by rw [hc] at h; simp at h), fun _ => ⟨⟨k + 1, hw, by omega, hg3.trans (hg14.trans (hg25.trans (hg26.trans (hg30.trans hg34))))⟩, by simp only [hw]; omega⟩⟩
def Km (w : World) (a : Option Addr) (n c : Nat) (xs : List Hp) : Prop := Reads w Enc.held (a, n, c) xs ∧ ∀ x ∈ xs, Reads w (Enc.int .i64) x.e x.c.ends ∧ x.c.ends.length ≤ 1048576
theorem Km.grew {w w' : World} {a : Option Addr} {n c : Nat} {xs : List Hp} (h : Km w a n c xs) (hg : Grew w w') : Km w' a n c xs := ⟨h.1.grew hg, fun x hx => ⟨(h.2 x hx).1.grew hg, (h.2 x hx).2⟩⟩
theorem Qa {w : World} {d : Addr} {k : Nat} {x : Hp} (h : Ae w (d.add (k * Enc.held.sz)) 0 (Enc.held.f x)) :
  w.cell? (Addr.add d (((k : Nat) : Int).toNat * 5)) = some (.int .i64 x.c.batch) ∧ w.cell? (Addr.add (Addr.add d (((k : Nat) : Int).toNat * 5)) 1) = some (.int .i64 x.c.att) ∧ w.cell? (Addr.add (Addr.add d (((k : Nat) : Int).toNat * 5)) 2) = some (.slice x.e.1 x.e.2.1 x.e.2.2) ∧
  w.cell? (Addr.add (Addr.add d (((k : Nat) : Int).toNat * 5)) 3) = some (.bool x.c.begun) ∧ w.cell? (Addr.add (Addr.add d (((k : Nat) : Int).toNat * 5)) 4) = some (.int .i64 x.c.applied) := by
 have h0 := Ai h 0 _ rfl
 have h1 := Ai h 1 _ rfl
 have h2 := Ai h 2 _ rfl
 have h3 := Ai h 3 _ rfl
 have h4 := Ai h 4 _ rfl
 exact ⟨by simpa [Enc.held, Addr.add_zero'] using h0, by simpa [Enc.held] using h1, by simpa [Enc.held] using h2, by simpa [Enc.held] using h3, by simpa [Enc.held] using h4⟩
set_option maxHeartbeats 1000000 in
theorem Sm {a b : Option Addr} {n c m d : Nat} {xs ys : List Hp} {w : World} (hx : Km w a n c xs) (hy : Km w b m d ys) (he : xs.map (·.c) = ys.map (·.c)) (hl : xs.length ≤ 1048576) :
  Aa Tryz.prog 20 [.slice a n c, .slice b m d] w (Rets fun u w' => u = .bool true ∧ Grew w w') := by
 refine sx20.ok ?_
 unfold sx20
 have hn : n = xs.length := hx.1.2.1
 subst hn
 have hm : m = ys.length := hy.1.2.1
 subst hm
 have hlen : xs.length = ys.length := by have := congrArg List.length he; simpa using this
 refine ⟨fun hne => ?_, fun _ => ?_⟩
 ·rw [hlen] at hne; simp at hne
 refine ⟨fun i w' => ∃ k : Nat, i = k ∧ k ≤ xs.length ∧ Grew w w', fun i _ => xs.length - i.toNat, ⟨0, rfl, Nat.zero_le _, Grew.refl _⟩, ?_⟩
 rintro n2 w3 ⟨k, rfl, hk, hg3⟩
 refine ⟨fun hlt w4 hg4 => ?_, fun _ => ⟨_, rfl, rfl, hg3⟩⟩
 simp only [decide_eq_true_eq] at hlt
 have hw : IntKind.i64.wrap ((k : Int) + 1) = ((k + 1 : Nat) : Int) := by rw [IntKind.wrap_i64]; omega
 have hg := hg3.trans hg4
 obtain ⟨d1, x, rfl, hxk, hxc⟩ := (hx.grew hg).1.at0 (k := k) (by omega)
 obtain ⟨d2, y, rfl, hyk, hyc⟩ := (hy.grew hg).1.at0 (k := k) (by omega)
 have hxa := (hx.grew hg).2 x (List.mem_of_getElem? hxk)
 have hya := (hy.grew hg).2 y (List.mem_of_getElem? hyk)
 have hc : x.c = y.c := by
  have h1 : (xs.map (·.c))[k]? = some x.c := by rw [List.getElem?_map, hxk]; rfl
  have h2 : (ys.map (·.c))[k]? = some y.c := by rw [List.getElem?_map, hyk]; rfl
  rw [he, h2] at h1; exact (Option.some.inj h1).symm
 obtain ⟨x0, x1, x2, x3, x4⟩ := Qa hxc
 obtain ⟨y0, y1, y2, y3, y4⟩ := Qa hyc
 rw [hc] at x0 x1 x3 x4
 have bd : (0 : Int) ≤ (k : Int) ∧ (k : Int) < (xs.length : Nat) := ⟨by omega, by omega⟩
 have be : (0 : Int) ≤ (k : Int) ∧ (k : Int) < (ys.length : Nat) := ⟨by omega, by omega⟩
 refine ⟨bd, _, x0, be, _, y0, fun h => (by simp at h), fun _ => ⟨bd, _, x1, be, _, y1, fun h => (by simp at h), fun _ => ⟨bd, _, x3, be, _, y3, fun h => (by simp at h), fun _ => ⟨bd, _, x4, be, _, y4, fun h => (by simp at h), fun _ => ⟨bd, _, _, _, x2, be, _, _, _, y2, ?_⟩⟩⟩⟩⟩
 refine (Xb hxa.1 hya.1 (by omega)).use fun u w25 ⟨hv, hg25⟩ => ?_
 subst hv
 have b1 := hg25.block _ (World.block_lt_of_cell? w4 _ x0)
 have b2 := hg25.block _ (World.block_lt_of_cell? w4 _ y0)
 simp only [add_block] at b1 b2
 refine ⟨_, rfl, by simp [Ad, add_block, b1, b2], fun h => (by rw [hc] at h; simp at h), fun _ => ⟨⟨k + 1, hw, by omega, hg.trans hg25⟩, by simp only [hw]; omega⟩⟩
end Go.Proofs.YtcpkneemhfnanaaGreat
