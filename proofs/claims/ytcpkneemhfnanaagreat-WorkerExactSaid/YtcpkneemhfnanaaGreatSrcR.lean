/- What the reference source's methods hand back. Conditions: none. -/
import Derived.Test.YtcpkneemhfnanaaGreatProg
import Derived.Test.YtcpkneemhfnanaaGreatSrcA
import Derived.Test.YtcpkneemhfnanaaGreatRefO
import Derived.Test.YtcpkneemhfnanaaGreatSxVa
namespace Go.Proofs.YtcpkneemhfnanaaGreat
open Go.Sx
set_option maxRecDepth 100000
set_option linter.unusedVariables false
set_option linter.unusedSimpArgs false
def sx12 (parts : Int) (list : Option Addr) (list_n list_c : Nat) (R : Ending → World → Prop) (w : World) : Prop :=
 ifB (decide (parts < 1)) (R (.returned (.tuple #[.pointer none, .int .i64 1])) w) (ifB (decide (parts > 4)) (R (.returned (.tuple #[.pointer none, .int .i64 1])) w) (Aa Tryz.prog 43 [.slice list list_n list_c] w (RetR R fun u2 w1 => ∃ n3, u2 = .int .i64 n3 ∧ ifB (n3 != 0) (R (.returned (.tuple #[.pointer none, .int .i64 30])) w1) (∀ b5 w6, Ag w1 w6 b5 (.cells #[] 79) → SemW Tryz.prog (Builtin.append_ #[22, 22] 22 #[.slice (some ⟨b5, 0, none⟩) 0 0, .slice list list_n list_c]) (fun u8 w7 => ∃ a9 l9 c9, u8 = .slice a9 l9 c9 ∧ ∀ w10, Grew w7 w10 → ((SemW Tryz.prog (Instr.makeSlice 113 (.int .i64 parts) (.int .i64 parts)) (fun u12 w11 => ∃ a13 l13 c13, u12 = .slice a13 l13 c13 ∧ Ad w10 w11 [] ∧ SemW Tryz.prog (Instr.makeSlice 72 (.int .i64 parts) (.int .i64 parts)) (fun u15 w14 => ∃ a16 l16 c16, u15 = .slice a16 l16 c16 ∧ Ad w11 w14 [] ∧ ∀ b17 w18, Ag w14 w18 b17 (.cells [.slice a13 l13 c13, .slice a16 l16 c16, .slice a9 l9 c9].toArray 115) → Ad w14 w18 [] ∧ R (.returned (.tuple #[.pointer (some ⟨b17, 0, none⟩), .int .i64 0])) w18) w11) w10) ∧ (SemW Tryz.prog (Instr.makeSlice 72 (.int .i64 parts) (.int .i64 parts)) (fun u20 w19 => ∃ a21 l21 c21, u20 = .slice a21 l21 c21 ∧ Ad w10 w19 [] ∧ SemW Tryz.prog (Instr.makeSlice 113 (.int .i64 parts) (.int .i64 parts)) (fun u23 w22 => ∃ a24 l24 c24, u23 = .slice a24 l24 c24 ∧ Ad w19 w22 [] ∧ ∀ b25 w26, Ag w22 w26 b25 (.cells [.slice a24 l24 c24, .slice a21 l21 c21, .slice a9 l9 c9].toArray 115) → Ad w22 w26 [] ∧ R (.returned (.tuple #[.pointer (some ⟨b25, 0, none⟩), .int .i64 0])) w26) w19) w10))) w6))))
theorem sx12.ok {parts : Int} {list : Option Addr} {list_n list_c : Nat} {R : Ending → World → Prop} {w : World} (h : sx12 parts list list_n list_c R w) : Aa Tryz.prog 12 [.int .i64 parts, .slice list list_n list_c] w R :=
 okOf { sem := [19, 21, 23], draws := [(7, { order := (ol [0,2,4] (.alt (ol [1,3,5,6,7,8] .nil) (ol [3,1,5,6,7,8] .nil))), bars := [] })] } mix Tryz.func12 (by kernel_rfl) (by kernel_rfl) (by kernel_rfl) h
def sx54 (s : Nat) (p : Int) (R : Ending → World → Prop) (w : World) : Prop :=
 ifB (decide (p ≥ 0)) (∃ a1 l1 c1, w.cell? ⟨s, 0, none⟩ = some (.slice a1 l1 c1) ∧ R (.returned (.bool (decide (p < ((l1 : Nat) : Int))))) w) (R (.returned (.bool false)) w)
theorem sx54.ok {s : Nat} {p : Int} {R : Ending → World → Prop} {w : World} (h : sx54 s p R w) : Aa Tryz.prog 54 [.pointer (some ⟨s, 0, none⟩), .int .i64 p] w R :=
 okOf { known := [6] } mix Tryz.func54 (by kernel_rfl) (by kernel_rfl) (by kernel_rfl) h
def sx107 (s : Nat) (R : Ending → World → Prop) (w : World) : Prop :=
 ∃ a1 l1 c1, w.cell? ⟨s, 0, none⟩ = some (.slice a1 l1 c1) ∧ R (.returned (.int .i64 ((l1 : Nat) : Int))) w
theorem sx107.ok {s : Nat} {R : Ending → World → Prop} {w : World} (h : sx107 s R w) : Aa Tryz.prog 107 [.pointer (some ⟨s, 0, none⟩)] w R :=
 okOf { known := [4] } mix Tryz.func107 (by kernel_rfl) (by kernel_rfl) (by kernel_rfl) h
def sx123 (s : Nat) (p : Int) (R : Ending → World → Prop) (w : World) : Prop :=
 Aa Tryz.prog 54 [.pointer (some ⟨s, 0, none⟩), .int .i64 p] w (RetR R fun u2 w1 => ∃ b3, u2 = .bool b3 ∧ ifB b3 (∃ a5 l5 c5, w1.cell? ⟨s, 1, none⟩ = some (.slice a5 l5 c5) ∧ Ab a5 (fun d6 => (0 ≤ p ∧ p < (l5 : Nat)) ∧ ∃ b7, w1.cell? (Addr.add d6 (p.toNat * 1)) = some (.bool b7) ∧ R (.returned (.bool (!b7))) w1)) (R (.returned (.bool false)) w1))
theorem sx123.ok {s : Nat} {p : Int} {R : Ending → World → Prop} {w : World} (h : sx123 s p R w) : Aa Tryz.prog 123 [.pointer (some ⟨s, 0, none⟩), .int .i64 p] w R :=
 okOf {} mix Tryz.func123 (by kernel_rfl) (by kernel_rfl) (by kernel_rfl) h
def sx124 (s : Nat) (p : Int) (R : Ending → World → Prop) (w : World) : Prop :=
 Aa Tryz.prog 54 [.pointer (some ⟨s, 0, none⟩), .int .i64 p] w (RetR R fun u2 w1 => ∃ b3, u2 = .bool b3 ∧ ifB (!b3) (R (.returned (.int .i64 0)) w1) (∃ a5 l5 c5, w1.cell? ⟨s, 0, none⟩ = some (.slice a5 l5 c5) ∧ Ab a5 (fun d6 => (0 ≤ p ∧ p < (l5 : Nat)) ∧ ∃ a7 l7 c7, w1.cell? (Addr.add d6 (p.toNat * 1)) = some (.slice a7 l7 c7) ∧ R (.returned (.int .i64 ((l7 : Nat) : Int))) w1)))
theorem sx124.ok {s : Nat} {p : Int} {R : Ending → World → Prop} {w : World} (h : sx124 s p R w) : Aa Tryz.prog 124 [.pointer (some ⟨s, 0, none⟩), .int .i64 p] w R :=
 okOf {} mix Tryz.func124 (by kernel_rfl) (by kernel_rfl) (by kernel_rfl) h
def sx19 (s : Nat) (p : Int) (on : Bool) (R : Ending → World → Prop) (w : World) : Prop :=
 Aa Tryz.prog 54 [.pointer (some ⟨s, 0, none⟩), .int .i64 p] w (RetR R fun u2 w1 => ∃ b3, u2 = .bool b3 ∧ ifB (!b3) (R (.returned (.int .i64 60)) w1) (∃ a5 l5 c5, w1.cell? ⟨s, 1, none⟩ = some (.slice a5 l5 c5) ∧ Ab a5 (fun d6 => (0 ≤ p ∧ p < (l5 : Nat)) ∧ Af w1 (Addr.add d6 (p.toNat * 1)) 0 [.bool (!on)] ∧ ∀ w7, w7 = setCells w1 (Addr.add d6 (p.toNat * 1)) 0 [.bool (!on)] → R (.returned (.int .i64 0)) w7)))
theorem sx19.ok {s : Nat} {p : Int} {on : Bool} {R : Ending → World → Prop} {w : World} (h : sx19 s p on R w) : Aa Tryz.prog 19 [.pointer (some ⟨s, 0, none⟩), .int .i64 p, .bool on] w R :=
 okOf { known := [8] } mix Tryz.func19 (by kernel_rfl) (by kernel_rfl) (by kernel_rfl) h
def sx140 (s : Nat) (p : Int) (R : Ending → World → Prop) (w : World) : Prop :=
 ∀ b1 w2, Ag w w2 b1 (.cells #[] 43) → Aa Tryz.prog 54 [.pointer (some ⟨s, 0, none⟩), .int .i64 p] w2 (RetR R fun u4 w3 => ∃ b5, u4 = .bool b5 ∧ ifB b5 (∃ a7 l7 c7, w3.cell? ⟨s, 0, none⟩ = some (.slice a7 l7 c7) ∧ Ab a7 (fun d8 => (0 ≤ p ∧ p < (l7 : Nat)) ∧ ∃ a9 l9 c9, w3.cell? (Addr.add d8 (p.toNat * 1)) = some (.slice a9 l9 c9) ∧ SemW Tryz.prog (Builtin.append_ #[62, 62] 62 #[.slice (some ⟨b1, 0, none⟩) 0 0, .slice a9 l9 c9]) (fun u11 w10 => ∃ a12 l12 c12, u11 = .slice a12 l12 c12 ∧ R (.returned (.slice a12 l12 c12)) w10) w3)) (R (.returned (.slice (some ⟨b1, 0, none⟩) 0 0)) w3))
theorem sx140.ok {s : Nat} {p : Int} {R : Ending → World → Prop} {w : World} (h : sx140 s p R w) : Aa Tryz.prog 140 [.pointer (some ⟨s, 0, none⟩), .int .i64 p] w R :=
 okOf { sem := [18] } mix Tryz.func140 (by kernel_rfl) (by kernel_rfl) (by kernel_rfl) h
def sx57 (l : Option Addr) (l_n l_c : Nat) (k : Int) (R : Ending → World → Prop) (w : World) : Prop :=
 ∃ J1 : Int → World → Prop, (∃ (I2 : Int → World → Prop) (m2 : Int → World → Nat), I2 0 w ∧ ∀ n3 w4, I2 n3 w4 → ifB (decide (n3 < ((l_n : Nat) : Int))) (Ab l (fun d5 => (0 ≤ n3 ∧ n3 < (l_n : Nat)) ∧ ∃ n6, w4.cell? (Addr.add d5 (n3.toNat * 1)) = some (.int .u64 n6) ∧ ifB (decide (n6 < k)) ((I2 (IntKind.i64.wrap (n3 + 1)) w4 ∧ m2 (IntKind.i64.wrap (n3 + 1)) w4 < m2 n3 w4)) (J1 n3 w4))) (J1 n3 w4)) ∧ ∀ n7 w8, J1 n7 w8 → ifB (decide (n7 < ((l_n : Nat) : Int))) (Ab l (fun d9 => (0 ≤ n7 ∧ n7 < (l_n : Nat)) ∧ ∃ n10, w8.cell? (Addr.add d9 (n7.toNat * 1)) = some (.int .u64 n10) ∧ ifB (n10 == k) (R (.returned (.slice l l_n l_c)) w8) (∀ b11 w12, Ag w8 w12 b11 (.cells #[.int .u64 0] 40) → SemW Tryz.prog (Builtin.append_ #[45, 45] 45 #[.slice l l_n l_c, .slice (some ⟨b11, 0, none⟩) 1 1]) (fun u14 w13 => ∃ a15 l15 c15, u14 = .slice a15 l15 c15 ∧ ∀ n16 : Int, n16 = IntKind.i64.wrap (((l15 : Nat) : Int) - 1) → ∃ (I17 : Int → World → Prop) (m17 : Int → World → Nat), I17 n16 w13 ∧ ∀ n18 w19, I17 n18 w19 → ifB (decide (n18 > n7)) (Ab a15 (fun d20 => (0 ≤ (IntKind.i64.wrap (n18 - 1)) ∧ (IntKind.i64.wrap (n18 - 1)) < (l15 : Nat)) ∧ ∃ n21, w19.cell? (Addr.add d20 ((IntKind.i64.wrap (n18 - 1)).toNat * 1)) = some (.int .u64 n21) ∧ Ab a15 (fun d22 => (0 ≤ n18 ∧ n18 < (l15 : Nat)) ∧ Af w19 (Addr.add d22 (n18.toNat * 1)) 0 [.int .u64 n21] ∧ ∀ w23, w23 = setCells w19 (Addr.add d22 (n18.toNat * 1)) 0 [.int .u64 n21] → (I17 (IntKind.i64.wrap (n18 - 1)) w23 ∧ m17 (IntKind.i64.wrap (n18 - 1)) w23 < m17 n18 w19)))) (Ab a15 (fun d24 => (0 ≤ n7 ∧ n7 < (l15 : Nat)) ∧ Af w19 (Addr.add d24 (n7.toNat * 1)) 0 [.int .u64 k] ∧ ∀ w25, w25 = setCells w19 (Addr.add d24 (n7.toNat * 1)) 0 [.int .u64 k] → R (.returned (.slice a15 l15 c15)) w25))) w12))) (∀ b26 w27, Ag w8 w27 b26 (.cells #[.int .u64 0] 40) → SemW Tryz.prog (Builtin.append_ #[45, 45] 45 #[.slice l l_n l_c, .slice (some ⟨b26, 0, none⟩) 1 1]) (fun u29 w28 => ∃ a30 l30 c30, u29 = .slice a30 l30 c30 ∧ ∀ n31 : Int, n31 = IntKind.i64.wrap (((l30 : Nat) : Int) - 1) → ∃ (I32 : Int → World → Prop) (m32 : Int → World → Nat), I32 n31 w28 ∧ ∀ n33 w34, I32 n33 w34 → ifB (decide (n33 > n7)) (Ab a30 (fun d35 => (0 ≤ (IntKind.i64.wrap (n33 - 1)) ∧ (IntKind.i64.wrap (n33 - 1)) < (l30 : Nat)) ∧ ∃ n36, w34.cell? (Addr.add d35 ((IntKind.i64.wrap (n33 - 1)).toNat * 1)) = some (.int .u64 n36) ∧ Ab a30 (fun d37 => (0 ≤ n33 ∧ n33 < (l30 : Nat)) ∧ Af w34 (Addr.add d37 (n33.toNat * 1)) 0 [.int .u64 n36] ∧ ∀ w38, w38 = setCells w34 (Addr.add d37 (n33.toNat * 1)) 0 [.int .u64 n36] → (I32 (IntKind.i64.wrap (n33 - 1)) w38 ∧ m32 (IntKind.i64.wrap (n33 - 1)) w38 < m32 n33 w34)))) (Ab a30 (fun d39 => (0 ≤ n7 ∧ n7 < (l30 : Nat)) ∧ Af w34 (Addr.add d39 (n7.toNat * 1)) 0 [.int .u64 k] ∧ ∀ w40, w40 = setCells w34 (Addr.add d39 (n7.toNat * 1)) 0 [.int .u64 k] → R (.returned (.slice a30 l30 c30)) w40))) w27)
theorem sx57.ok {l : Option Addr} {l_n l_c : Nat} {k : Int} {R : Ending → World → Prop} {w : World} (h : sx57 l l_n l_c k R w) : Aa Tryz.prog 57 [.slice l l_n l_c, .int .u64 k] w R :=
 okOf { sem := [36], named := [39], loops := [(2, { slots := [(5, .int .i64)], cells := [] }), (8, { slots := [(6, .int .i64)], cells := [] })], cuts := [(4, { slots := [(5, .int .i64)], cells := [] })] } mix Tryz.func57 (by kernel_rfl) (by kernel_rfl) (by kernel_rfl) h
def sx56 (s : Nat) (R : Ending → World → Prop) (w : World) : Prop :=
 ∀ b1 w2, Ag w w2 b1 (.cells #[] 40) → ∃ (I3 : Option Addr → Nat → Nat → Int → World → Prop) (m3 : Option Addr → Nat → Nat → Int → World → Nat), I3 (some ⟨b1, 0, none⟩) 0 0 0 w2 ∧ ∀ a4 l4 c4 n5 w6, I3 a4 l4 c4 n5 w6 → Aa Tryz.prog 107 [.pointer (some ⟨s, 0, none⟩)] w6 (RetR R fun u8 w7 => ∃ n9, u8 = .int .i64 n9 ∧ ifB (decide (n5 < n9)) (∃ (I11 : Option Addr → Nat → Nat → Int → World → Prop) (m11 : Option Addr → Nat → Nat → Int → World → Nat), I11 a4 l4 c4 0 w7 ∧ ∀ a12 l12 c12 n13 w14, I11 a12 l12 c12 n13 w14 → ∃ a15 l15 c15, w14.cell? ⟨s, 0, none⟩ = some (.slice a15 l15 c15) ∧ Ab a15 (fun d16 => (0 ≤ n5 ∧ n5 < (l15 : Nat)) ∧ ∃ a17 l17 c17, w14.cell? (Addr.add d16 (n5.toNat * 1)) = some (.slice a17 l17 c17) ∧ ifB (decide (n13 < ((l17 : Nat) : Int))) (∀ w18, Grew w14 w18 → ∃ a19 l19 c19, w18.cell? ⟨s, 2, none⟩ = some (.slice a19 l19 c19) ∧ ∃ a20 l20 c20, w18.cell? ⟨s, 0, none⟩ = some (.slice a20 l20 c20) ∧ Ab a20 (fun d21 => (0 ≤ n5 ∧ n5 < (l20 : Nat)) ∧ ∃ a22 l22 c22, w18.cell? (Addr.add d21 (n5.toNat * 1)) = some (.slice a22 l22 c22) ∧ Ab a22 (fun d23 => (0 ≤ n13 ∧ n13 < (l22 : Nat)) ∧ ∃ n24 x25, Ae w18 (Addr.add d23 (n13.toNat * 2)) 0 [.int .u64 n24, .float .f64 x25] ∧ Aa Tryz.prog 55 [.slice a19 l19 c19, .agg #[.int .u64 n24, .float .f64 x25]] w18 (RetR R fun u27 w26 => ∃ n28 b29, u27 = .tuple #[.int .u64 n28, .bool b29] ∧ ifB b29 (Aa Tryz.prog 57 [.slice a12 l12 c12, .int .u64 n28] w26 (RetR R fun u32 w31 => ∃ a33 l33 c33, u32 = .slice a33 l33 c33 ∧ (I11 a33 l33 c33 (IntKind.i64.wrap (n13 + 1)) w31 ∧ m11 a33 l33 c33 (IntKind.i64.wrap (n13 + 1)) w31 < m11 a12 l12 c12 n13 w14))) ((I11 a12 l12 c12 (IntKind.i64.wrap (n13 + 1)) w26 ∧ m11 a12 l12 c12 (IntKind.i64.wrap (n13 + 1)) w26 < m11 a12 l12 c12 n13 w14)))))) ((I3 a12 l12 c12 (IntKind.i64.wrap (n5 + 1)) w14 ∧ m3 a12 l12 c12 (IntKind.i64.wrap (n5 + 1)) w14 < m3 a4 l4 c4 n5 w6)))) (R (.returned (.slice a4 l4 c4)) w7))
theorem sx56.ok {s : Nat} {R : Ending → World → Prop} {w : World} (h : sx56 s R w) : Aa Tryz.prog 56 [.pointer (some ⟨s, 0, none⟩)] w R :=
 okOf { draws := [(8, { order := (ol [0,1,2,3,4,5,6,7,8,9,10,11,12,13,14,15,16,17,18,19] .nil), bars := [14] })], loops := [(6, { slots := [(3, .slice), (5, .int .i64)], cells := [] }), (1003, { slots := [(3, .slice), (4, .int .i64)], cells := [] })] } mix Tryz.func56 (by kernel_rfl) (by kernel_rfl) (by kernel_rfl) h
def sx17 (d : Nat) (i p2_0 : Int) (p2_1 : Nat) (R : Ending → World → Prop) (w : World) : Prop :=
  ∀ w1, Grew w w1 → Aa Tryz.prog 54 [.pointer (some ⟨d, 0, none⟩), .int .i64 i] w1 (RetR R fun u3 w2 => ∃ b4, u3 = .bool b4 ∧ ifB (!b4) (R (.returned (.int .i64 60)) w2) (∃ a6 l6 c6, w2.cell? ⟨d, 0, none⟩ = some (.slice a6 l6 c6) ∧ Ab a6 (fun d7 => (0 ≤ i ∧ i < (l6 : Nat)) ∧ ∃ a8 l8 c8, w2.cell? (Addr.add d7 (i.toNat * 1)) = some (.slice a8 l8 c8) ∧ ifB (((l8 : Nat) : Int) == 256) (R (.returned (.int .i64 61)) w2) (∀ w9, Grew w2 w9 → ∃ a10 l10 c10, w9.cell? ⟨d, 2, none⟩ = some (.slice a10 l10 c10) ∧ Aa Tryz.prog 55 [.slice a10 l10 c10, .agg #[.int .u64 p2_0, .float .f64 p2_1]] w9 (RetR R fun u12 w11 => ∃ n13 b14, u12 = .tuple #[.int .u64 n13, .bool b14] ∧ ifB b14 (Aa Tryz.prog 56 [.pointer (some ⟨d, 0, none⟩)] w11 (RetR R fun u17 w16 => ∃ a18 l18 c18, u17 = .slice a18 l18 c18 ∧ ifB (((l18 : Nat) : Int) == 64) (Aa Tryz.prog 57 [.slice a18 l18 c18, .int .u64 n13] w16 (RetR R fun u21 w20 => ∃ a22 l22 c22, u21 = .slice a22 l22 c22 ∧ ifB (decide (((l22 : Nat) : Int) > 64)) (R (.returned (.int .i64 62)) w20) (∀ w24, Grew w20 w24 → ∃ a25 l25 c25, w24.cell? ⟨d, 0, none⟩ = some (.slice a25 l25 c25) ∧ ∃ a26 l26 c26, w24.cell? ⟨d, 0, none⟩ = some (.slice a26 l26 c26) ∧ Ab a26 (fun d27 => (0 ≤ i ∧ i < (l26 : Nat)) ∧ ∃ a28 l28 c28, w24.cell? (Addr.add d27 (i.toNat * 1)) = some (.slice a28 l28 c28) ∧ ∀ b29 w30, Ag w24 w30 b29 (.cells #[.int .u64 p2_0, .float .f64 p2_1] 43) → Ad w24 w30 [(Addr.add d27 (i.toNat * 1)), ⟨d, 0, none⟩, ⟨d, 0, none⟩] ∧ SemW Tryz.prog (Builtin.append_ #[62, 62] 62 #[.slice a28 l28 c28, .slice (some ⟨b29, 0, none⟩) 1 1]) (fun u32 w31 => ∃ a33 l33 c33, u32 = .slice a33 l33 c33 ∧ Ad w30 w31 [(Addr.add d27 (i.toNat * 1)), ⟨d, 0, none⟩, ⟨d, 0, none⟩] ∧ Ab a25 (fun d34 => (0 ≤ i ∧ i < (l25 : Nat)) ∧ Af w31 (Addr.add d34 (i.toNat * 1)) 0 [.slice a33 l33 c33] ∧ ∀ w35, w35 = setCells w31 (Addr.add d34 (i.toNat * 1)) 0 [.slice a33 l33 c33] → R (.returned (.int .i64 0)) w35)) w30)))) (∀ w36, Grew w16 w36 → ∃ a37 l37 c37, w36.cell? ⟨d, 0, none⟩ = some (.slice a37 l37 c37) ∧ ∃ a38 l38 c38, w36.cell? ⟨d, 0, none⟩ = some (.slice a38 l38 c38) ∧ Ab a38 (fun d39 => (0 ≤ i ∧ i < (l38 : Nat)) ∧ ∃ a40 l40 c40, w36.cell? (Addr.add d39 (i.toNat * 1)) = some (.slice a40 l40 c40) ∧ ∀ b41 w42, Ag w36 w42 b41 (.cells #[.int .u64 p2_0, .float .f64 p2_1] 43) → Ad w36 w42 [(Addr.add d39 (i.toNat * 1)), ⟨d, 0, none⟩, ⟨d, 0, none⟩] ∧ SemW Tryz.prog (Builtin.append_ #[62, 62] 62 #[.slice a40 l40 c40, .slice (some ⟨b41, 0, none⟩) 1 1]) (fun u44 w43 => ∃ a45 l45 c45, u44 = .slice a45 l45 c45 ∧ Ad w42 w43 [(Addr.add d39 (i.toNat * 1)), ⟨d, 0, none⟩, ⟨d, 0, none⟩] ∧ Ab a37 (fun d46 => (0 ≤ i ∧ i < (l37 : Nat)) ∧ Af w43 (Addr.add d46 (i.toNat * 1)) 0 [.slice a45 l45 c45] ∧ ∀ w47, w47 = setCells w43 (Addr.add d46 (i.toNat * 1)) 0 [.slice a45 l45 c45] → R (.returned (.int .i64 0)) w47)) w42)))) (∀ w48, Grew w11 w48 → ∃ a49 l49 c49, w48.cell? ⟨d, 0, none⟩ = some (.slice a49 l49 c49) ∧ ∃ a50 l50 c50, w48.cell? ⟨d,
 0, none⟩ = some (.slice a50 l50 c50) ∧ Ab a50 (fun d51 => (0 ≤ i ∧ i < (l50 : Nat)) ∧ ∃ a52 l52 c52, w48.cell? (Addr.add d51 (i.toNat * 1)) = some (.slice a52 l52 c52) ∧ ∀ b53 w54, Ag w48 w54 b53 (.cells #[.int .u64 p2_0, .float .f64 p2_1] 43) → Ad w48 w54 [(Addr.add d51 (i.toNat * 1)), ⟨d, 0, none⟩, ⟨d, 0, none⟩] ∧ SemW Tryz.prog (Builtin.append_ #[62, 62] 62 #[.slice a52 l52 c52, .slice (some ⟨b53, 0, none⟩) 1 1]) (fun u56 w55 => ∃ a57 l57 c57, u56 = .slice a57 l57 c57 ∧ Ad w54 w55 [(Addr.add d51 (i.toNat * 1)), ⟨d, 0, none⟩, ⟨d, 0, none⟩] ∧ Ab a49 (fun d58 => (0 ≤ i ∧ i < (l49 : Nat)) ∧ Af w55 (Addr.add d58 (i.toNat * 1)) 0 [.slice a57 l57 c57] ∧ ∀ w59, w59 = setCells w55 (Addr.add d58 (i.toNat * 1)) 0 [.slice a57 l57 c57] → R (.returned (.int .i64 0)) w59)) w54)))))))
theorem sx17.ok {d : Nat} {i p2_0 : Int} {p2_1 : Nat} {R : Ending → World → Prop} {w : World} (h : sx17 d i p2_0 p2_1 R w) : Aa Tryz.prog 17 [.pointer (some ⟨d, 0, none⟩), .int .i64 i, .agg #[.int .u64 p2_0, .float .f64 p2_1]] w R :=
 okOf { locals := [5], known := [12], sem := [63], draws := [(7, { order := (ol [0,1,2,3,4,5,6,7,8,9,10] .nil), bars := [5] }), (13, { order := (ol [0,1,2,3,4,5,6,7,8,9,10,11,12,13,14,15,16] .nil), bars := [16] })] } mix Tryz.func17 (by kernel_rfl) (by kernel_rfl) (by kernel_rfl) h
abbrev RSA := Dd 115 62 4 43 79
abbrev RSM := Cp 115 62 4 43 79
theorem rsD : Wm 115 62 4 43 79 := by unfold Wm; decide
def Ab3 (w : World) (parts : Int) (l : List OpV) (v : Value) (w' : World) : Prop :=
 Grew w w' ∧ (((parts < 1 ∨ 4 < parts) ∧ v = .tuple #[.pointer none, .int .i64 1]) ∨ ((1 ≤ parts ∧ parts ≤ 4) ∧ Aw l = false ∧ v = .tuple #[.pointer none, .int .i64 30]) ∨
  ((1 ≤ parts ∧ parts ≤ 4) ∧ Aw l = true ∧ ∃ x : Ch, v = .tuple #[.pointer (some ⟨x.q, 0, none⟩), .int .i64 0] ∧ RSA w' w.heap.size x (Dz parts.toNat l)))
theorem T9 {α : Type} {w : World} {B : Nat} {e : TypeId} {E : Enc α} {a : Option Addr} {n c k : Nat} {x : α} (h : Own w B e E a n c (List.replicate k x)) (hk : 0 < k) : ∃ g, a = some ⟨g, 0, none⟩ := by
 rcases h.out with ⟨-, h, -, -⟩ | ⟨g, cur, h, -⟩
 ·have := congrArg List.length h; simp at this; omega
 ·exact ⟨g, h⟩
theorem Ady {parts : Int} {a : Option Addr} {n c : Nat} {l : List OpV} {w : World} (hr : Reads w Enc.op3 (a, n, c) l) (hl : ∀ o ∈ l, o.Fits) :
  Aa Tryz.prog 12 [.int .i64 parts, .slice a n c] w (Rets (Ab3 w parts l)) := by
 refine sx12.ok ?_
 unfold sx12
 have nb : ∀ {x y : World}, Ad x y [] := by intro x y; simp [Ad]
 refine ⟨fun h => ⟨_, rfl, Grew.refl _, .inl ⟨.inl (by simpa using h), rfl⟩⟩, fun h1 => ⟨fun h => ⟨_, rfl, Grew.refl _, .inl ⟨.inr (by simpa using h), rfl⟩⟩, fun h2 => ?_⟩⟩
 simp only [decide_eq_false_iff_not] at h1 h2
 refine (J4 hr).use fun v w1 ⟨hv, hg1⟩ => ?_
 subst hv
 cases hc : Aw l
 ·exact ⟨_, rfl, fun _ => ⟨_, rfl, hg1, .inr (.inl ⟨⟨by omega, by omega⟩, hc, rfl⟩)⟩, fun h => (by simp at h)⟩
 refine ⟨_, rfl, fun h => (by simp at h), fun _ b5 w6 hal6 => ?_⟩
 have hlen := (Cu hc).1
 obtain ⟨k, rfl⟩ : ∃ k : Nat, parts = k := ⟨parts.toNat, by omega⟩
 have ho6 := Own.alloc (E := Enc.op3) (l := []) hal6 hg1.size rfl (by decide)
 have hr6 := hr.grew (hg1.trans hal6.grew)
 refine B5 elOp ho6 hr6.1 hr6.2.1 hr6.2.2.1 (hg1.trans hal6.grew).size (by simp [maxLen]; omega) (by simp; omega) ?_
 rintro v w7 ⟨a9, l9, c9, rfl, ho7, hu7, -⟩
 have hg7 : Grew w w7 := (hg1.trans hal6.grew).then_own hu7 fun b hb => (ho6.blk hb).1
 refine ⟨_, _, _, rfl, fun w10 hg10 => ?_⟩
 have hg10 := hg7.trans hg10
 have ho10 := ho7.grew (show Grew w7 w10 by assumption)
 have mkL : ∀ {w1 : World} {K : Value → World → Prop}, (∀ v w', Dk w1 62 Enc.slice (List.replicate k (none, 0, 0)) v w' → K v w') → SemW Tryz.prog (Instr.makeSlice 113 (.int .i64 (k : Int)) (.int .i64 (k : Int))) K w1 := fun hK =>
  Hf (E := Enc.slice) (x := (none, 0, 0)) (z := .slice none 0 0) (bytes := 24) (by kernel_rfl) (by kernel_rfl) rfl (by omega) (by simp [maxLen]; omega) hK
 have mkB : ∀ {w1 : World} {K : Value → World → Prop}, (∀ v w', Dk w1 4 Enc.boolE (List.replicate k false) v w' → K v w') → SemW Tryz.prog (Instr.makeSlice 72 (.int .i64 (k : Int)) (.int .i64 (k : Int))) K w1 := fun hK =>
  Hf (E := Enc.boolE) (x := false) (z := .bool false) (bytes := 1) (by kernel_rfl) (by kernel_rfl) rfl (by omega) (by simp [maxLen]; omega) hK
 have fin : ∀ {w' w'' : World} {a8 a11 : Option Addr} {l8 c8 l11 c11 b16 : Nat}, Grew w w' → Own w' w.heap.size 62 Enc.slice a8 l8 c8 (List.replicate k (none, 0, 0)) → Own w' w.heap.size 4 Enc.boolE a11 l11 c11 (List.replicate k false) → Own w' w.heap.size 79 Enc.op3 a9 l9 c9 l →
   Ag w' w'' b16 (.cells [.slice a8 l8 c8, .slice a11 l11 c11, .slice a9 l9 c9].toArray 115) → Rets (Ab3 w k l) (.returned (.tuple #[.pointer (some ⟨b16, 0, none⟩), .int .i64 0])) w'' := by
  intro w' w'' a8 a11 l8 c8 l11 c11 b16 hg ho8 ho11 ho9 hal
  have hl8 : l8 = k := by rw [ho8.len]; simp
  have hl11 : l11 = k := by rw [ho11.len]; simp
  subst hl8; subst hl11
  obtain ⟨g, rfl⟩ := T9 ho8 (by omega)
  obtain ⟨g2, rfl⟩ := T9 ho11 (by omega)
  refine ⟨_, rfl, hg.trans hal.grew, .inr (.inr ⟨⟨by omega, by omega⟩, hc, ⟨b16, g, g2, c8, c11, (a9, l9, c9), List.replicate l11 (none, 0, 0)⟩, rfl, ?_⟩)⟩
  refine ⟨?_, ?_, ?_, by simp [Dz], ?_, ?_, ho9.grew hal.grew, Nat.le_trans hg.size hal.new, Aas hl hc (by omega) (by omega), U6 _ _⟩
  ·simpa [Row] using hal.at_
  ·simpa using ho8.grew hal.grew
  ·simpa [Dz] using ho11.grew hal.grew
  ·intro i s hs
   obtain ⟨rfl, hi⟩ := Fe hs
   exact ⟨([], false), by simp [Dz, hi], Own.nil _ _ _ _⟩
  ·intro i j s t hij hs ht b hb
   obtain ⟨rfl, -⟩ := Fe hs
   exact (Blk.none hb).elim
 have s10 := hg10.size
 refine ⟨mkL fun v w11 ⟨a8, l8, c8, hv, ho8, hg8⟩ => ?_, mkB fun v w11 ⟨a8, l8, c8, hv, ho8, hg8⟩ => ?_⟩
 ·subst hv
  have hg11 := hg10.trans hg8
  refine ⟨_, _, _, rfl, nb, mkB fun v w14 ⟨a11, l11, c11, hv, ho11, hg14⟩ => ?_⟩
  subst hv
  refine ⟨_, _, _, rfl, nb, fun b17 w18 hal18 => ⟨nb, ?_⟩⟩
  exact fin (hg11.trans hg14) ((ho8.grew hg14).base s10) (ho11.base hg11.size) ((ho10.grew hg8).grew hg14) hal18
 ·subst hv
  have hg11 := hg10.trans hg8
  refine ⟨_, _, _, rfl, nb, mkL fun v w14 ⟨a11, l11, c11, hv, ho11, hg14⟩ => ?_⟩
  subst hv
  refine ⟨_, _, _, rfl, nb, fun b17 w18 hal18 => ⟨nb, ?_⟩⟩
  exact fin (hg11.trans hg14) (ho11.base hg11.size) ((ho8.grew hg14).base s10) ((ho10.grew hg8).grew hg14) hal18
theorem rc0 {w : World} {B : Nat} {x : Ch} {v : SrcV} (h : RSA w B x v) : w.cell? ⟨x.q, 0, none⟩ = some (.slice (some ⟨x.lb, 0, none⟩) x.hs.length x.lc) := by rw [h.row.cell]; rfl
theorem rc1 {w : World} {B : Nat} {x : Ch} {v : SrcV} (h : RSA w B x v) : w.cell? ⟨x.q, 1, none⟩ = some (.slice (some ⟨x.ob, 0, none⟩) x.hs.length x.oc) := by rw [h.row.cell]; rfl
theorem rc2 {w : World} {B : Nat} {x : Ch} {v : SrcV} (h : RSA w B x v) : w.cell? ⟨x.q, 2, none⟩ = some (.slice x.la.1 x.la.2.1 x.la.2.2) := by rw [h.row.cell]; rfl
theorem Pz {w : World} {B : Nat} {x : Ch} {v : SrcV} {p : Int} (h : RSA w B x v) :
  Aa Tryz.prog 54 [.pointer (some ⟨x.q, 0, none⟩), .int .i64 p] w (Rets fun u w' => w' = w ∧ u = .bool (v.getP p).isSome) := by
 refine sx54.ok ?_
 unfold sx54
 have hl := h.len
 refine ⟨fun h0 => ⟨_, _, _, by rw [h.row.cell]; rfl, _, rfl, rfl, ?_⟩, fun h0 => ⟨_, rfl, rfl, ?_⟩⟩
 ·simp only [decide_eq_true_eq] at h0
  cases hp : v.getP p with
  | none => have := Qr hp; rw [decide_eq_false (by omega)]; rfl
  | some q => have := A4 hp; rw [decide_eq_true (by omega)]; rfl
 ·simp only [decide_eq_false_iff_not] at h0
  cases hp : v.getP p with
  | none => rfl
  | some q => have := A4 hp; omega
theorem Re {w : World} {B : Nat} {x : Ch} {v : SrcV} (h : RSA w B x v) :
  Aa Tryz.prog 107 [.pointer (some ⟨x.q, 0, none⟩)] w (Rets fun u w' => u = .int .i64 (v.parts.length : Int) ∧ w' = w) := by
 refine sx107.ok ?_
 unfold sx107
 exact ⟨_, _, _, by rw [h.row.cell]; rfl, _, rfl, by rw [h.len], rfl⟩
theorem Aey {w : World} {B : Nat} {x : Ch} {v : SrcV} {p : Int} (h : RSA w B x v) :
  Aa Tryz.prog 123 [.pointer (some ⟨x.q, 0, none⟩), .int .i64 p] w (Rets fun u w' => u = .bool (v.up p) ∧ w' = w) := by
 refine sx123.ok ?_
 unfold sx123
 refine (Pz h).use fun u w1 ⟨hw, hv⟩ => ?_
 subst hw; subst hv
 unfold SrcV.up
 cases hp : v.getP p with
 | none => exact ⟨_, rfl, fun hh => (by cases hh), fun _ => ⟨_, rfl, rfl, rfl⟩⟩
 | some q =>
  obtain ⟨s, hs, ho, hc0, hc1, hlt⟩ := h.part hp
  obtain ⟨hp0, -, -⟩ := A4 hp
  refine ⟨_, rfl, fun _ => ⟨_, _, _, rc1 h, ⟨hp0, hlt⟩, q.2, ?_, _, rfl, rfl, rfl⟩, fun hh => (by cases hh)⟩
  simp only [Au, Nat.mul_one, Nat.zero_add]; exact hc1
theorem W8 {w : World} {B : Nat} {x : Ch} {v : SrcV} {p : Int} (h : RSA w B x v) :
  Aa Tryz.prog 124 [.pointer (some ⟨x.q, 0, none⟩), .int .i64 p] w (Rets fun u w' => u = .int .i64 (v.len p) ∧ w' = w) := by
 refine sx124.ok ?_
 unfold sx124
 refine (Pz h).use fun u w1 ⟨hw, hv⟩ => ?_
 subst hw; subst hv
 unfold SrcV.len
 cases hp : v.getP p with
 | none => exact ⟨_, rfl, fun _ => ⟨_, rfl, rfl, rfl⟩, fun hh => (by cases hh)⟩
 | some q =>
  obtain ⟨s, hs, ho, hc0, hc1, hlt⟩ := h.part hp
  obtain ⟨hp0, -, -⟩ := A4 hp
  refine ⟨_, rfl, fun hh => (by cases hh), fun _ => ⟨_, _, _, rc0 h, ⟨hp0, hlt⟩, s.1, s.2.1, s.2.2, ?_, _, rfl, by rw [ho.len], rfl⟩⟩
  simp only [Au, Nat.mul_one, Nat.zero_add]; exact hc0
theorem Vq {w : World} {B : Nat} {x : Ch} {v : SrcV} {p : Int} {on : Bool} (h : RSA w B x v) :
  Aa Tryz.prog 19 [.pointer (some ⟨x.q, 0, none⟩), .int .i64 p, .bool on] w (Rets fun u w' => u = .int .i64 (v.switch p on).2 ∧ RSM w B x w' (v.switch p on).1) := by
 refine sx19.ok ?_
 unfold sx19
 refine (Pz h).use fun u w1 ⟨hw, hv⟩ => ?_
 subst hw; subst hv
 have hks := Qh (p := p) (on := on) h.keys
 have hfs := Td (p := p) (on := on) h.fits
 unfold SrcV.switch at hks hfs ⊢
 cases hp : v.getP p with
 | none => exact ⟨_, rfl, fun _ => ⟨_, rfl, rfl, Cp.grew h (Grew.refl _)⟩, fun hh => (by cases hh)⟩
 | some q =>
  rw [hp] at hks hfs
  obtain ⟨s, hs, ho, hc0, hc1, hlt⟩ := h.part hp
  obtain ⟨hp0, -, -⟩ := A4 hp
  have key := h.setOff rsD hp (off := !on) hfs hks
  refine ⟨_, rfl, fun hh => (by cases hh), fun _ => ⟨_, _, _, rc1 h, ⟨hp0, hlt⟩, ?_⟩⟩
  simp only [Au, Nat.mul_one, Nat.zero_add]
  exact ⟨key.1, fun w7 h7 => ⟨_, rfl, rfl, key.2 w7 h7⟩⟩
theorem Adz {w : World} {B : Nat} {x : Ch} {v : SrcV} {p : Int} (h : RSA w B x v) :
  Aa Tryz.prog 140 [.pointer (some ⟨x.q, 0, none⟩), .int .i64 p] w (Rets (Dk w 43 Enc.rcd (v.log p))) := by
 refine sx140.ok ?_
 unfold sx140
 intro b1 w2 hal2
 have ho2 := Own.alloc (E := Enc.rcd) (l := []) hal2 (Nat.le_refl _) rfl (by decide)
 have h2 := h.grew hal2.grew
 refine (Pz h2).use fun u w1 ⟨hw, hv⟩ => ?_
 subst hw; subst hv
 unfold SrcV.log
 cases hp : v.getP p with
 | none => exact ⟨_, rfl, fun hh => (by cases hh), fun _ => ⟨_, rfl, _, _, _, rfl, ho2, hal2.grew⟩⟩
 | some q =>
  obtain ⟨s, hs, ho, hc0, hc1, hlt⟩ := h2.part hp
  obtain ⟨hp0, -, hpq⟩ := A4 hp
  have hql := h.fits.logs q (List.mem_of_getElem? hpq)
  refine ⟨_, rfl, fun _ => ⟨_, _, _, rc0 h2, ⟨hp0, hlt⟩, s.1, s.2.1, s.2.2, ?_, ?_⟩, fun hh => (by cases hh)⟩
  ·simp only [Au, Nat.mul_one, Nat.zero_add]; exact hc0
  ·have hr2 := ho.reads
   refine B5 Qz ho2 hr2.1 hr2.2.1 hr2.2.2.1 hal2.grew.size (by simp [maxLen]; omega) (by simp; omega) ?_
   rintro u w3 ⟨a5, l5, c5, rfl, ho5, hu5, -⟩
   exact ⟨a5, l5, c5, rfl, _, rfl, a5, l5, c5, rfl, ho5, hal2.grew.then_own hu5 fun b hb => (ho2.blk hb).1⟩
end Go.Proofs.YtcpkneemhfnanaaGreat
