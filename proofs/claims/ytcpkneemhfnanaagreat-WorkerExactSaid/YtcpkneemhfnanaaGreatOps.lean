/- What a pipeline hands back. Conditions: none. -/
import Derived.Test.YtcpkneemhfnanaaGreatProg
import Derived.Test.YtcpkneemhfnanaaGreatMath
import Derived.Test.YtcpkneemhfnanaaGreatSxP
namespace Go.Proofs.YtcpkneemhfnanaaGreat
open Go.Sx
set_option maxRecDepth 100000
set_option linter.unusedVariables false
set_option linter.unusedSimpArgs false
def sx82 (o_0 o_1 : Int) (o_2 : Nat) (R : Ending → World → Prop) (w : World) : Prop :=
 ∀ w1, Grew w w1 → ifB (o_0 == 7) (ifB (decide (o_1 ≥ (-2200))) (R (.returned (.bool (decide (o_1 ≤ 2200)))) w1) (R (.returned (.bool false)) w1)) (ifB (o_0 == 11) (R (.returned (.bool (decide (o_1 ≥ 1)))) w1) (ifB (decide (o_0 ≥ 1)) (R (.returned (.bool (decide (o_0 ≤ 12)))) w1) (R (.returned (.bool false)) w1)))
theorem sx82.ok {o_0 o_1 : Int} {o_2 : Nat} {R : Ending → World → Prop} {w : World} (h : sx82 o_0 o_1 o_2 R w) : Aa Tryz.prog 82 [.agg #[.int .i64 o_0, .int .i64 o_1, .float .f64 o_2]] w R :=
 okOf { locals := [1] } mix Tryz.func82 (by kernel_rfl) (by kernel_rfl) (by kernel_rfl) h
def sx42 (list : Option Addr) (list_n list_c : Nat) (R : Ending → World → Prop) (w : World) : Prop :=
 ifB (decide (((list_n : Nat) : Int) > 8)) (R (.returned (.int .i64 30)) w) (∃ (I1 : Int → World → Prop) (m1 : Int → World → Nat), I1 0 w ∧ ∀ n2 w3, I1 n2 w3 → ifB (decide (n2 < ((list_n : Nat) : Int))) (Ab list (fun d4 => (0 ≤ n2 ∧ n2 < (list_n : Nat)) ∧ ∃ n5 n6 x7, Ae w3 (Addr.add d4 (n2.toNat * 3)) 0 [.int .i64 n5, .int .i64 n6, .float .f64 x7] ∧ ∀ w8, Grew w3 w8 → Aa Tryz.prog 82 [.agg #[.int .i64 n5, .int .i64 n6, .float .f64 x7]] w8 (RetR R fun u10 w9 => ∃ b11, u10 = .bool b11 ∧ ifB (!b11) (R (.returned (.int .i64 30)) w9) ((I1 (IntKind.i64.wrap (n2 + 1)) w9 ∧ m1 (IntKind.i64.wrap (n2 + 1)) w9 < m1 n2 w3))))) (R (.returned (.int .i64 0)) w3))
theorem sx42.ok {list : Option Addr} {list_n list_c : Nat} {R : Ending → World → Prop} {w : World} (h : sx42 list list_n list_c R w) : Aa Tryz.prog 42 [.slice list list_n list_c] w R :=
 okOf { locals := [4], loops := [(4, { slots := [(10, .int .i64)], cells := [] })] } mix Tryz.func42 (by kernel_rfl) (by kernel_rfl) (by kernel_rfl) h
def sx172 (x : Nat) (R : Ending → World → Prop) (w : World) : Prop :=
 ∃ b1, Ao Tryz.prog (eqS .lss 41 (.tmp 4) (.const (.float .f64 0)) (.float .f64 x) (.float .f64 0)) (.bool b1) ∧ ifB b1 (R (.returned (.int .u64 0)) w) (∃ b2, Ao Tryz.prog (eqS .eql 41 (.tmp 7) (.const (.float .f64 0)) (.float .f64 x) (.float .f64 0)) (.bool b2) ∧ ifB b2 (R (.returned (.int .u64 1)) w) (∃ b3, Ao Tryz.prog (eqS .gtr 41 (.tmp 10) (.const (.float .f64 0)) (.float .f64 x) (.float .f64 0)) (.bool b3) ∧ ifB b3 (R (.returned (.int .u64 2)) w) (R (.returned (.int .u64 3)) w)))
theorem sx172.ok {x : Nat} {R : Ending → World → Prop} {w : World} (h : sx172 x R w) : Aa Tryz.prog 172 [.float .f64 x] w R :=
 okOf { pureTo := [5, 8, 11] } mix Tryz.func172 (by kernel_rfl) (by kernel_rfl) (by kernel_rfl) h
def sx173 (d_0 d_1 : Int) (d_2 i : Nat) (R : Ending → World → Prop) (w : World) : Prop :=
 ∀ w1, Grew w w1 → ifB (d_0 == 1) (∃ b2, Ao Tryz.prog (eqS .lss 41 (.tmp 11) (.tmp 13) (.float .f64 i) (.float .f64 d_2)) (.bool b2) ∧ ∀ w3, Grew w1 w3 → R (.returned (.tuple #[.float .f64 i, .bool b2])) w3) (ifB (d_0 == 2) (∃ b4, Ao Tryz.prog (eqS .gtr 41 (.tmp 18) (.tmp 20) (.float .f64 i) (.float .f64 d_2)) (.bool b4) ∧ ∀ w5, Grew w1 w5 → R (.returned (.tuple #[.float .f64 i, .bool b4])) w5) (ifB (d_0 == 3) (∃ b6, Ao Tryz.prog (eqS .eql 41 (.tmp 25) (.tmp 26) (.float .f64 i) (.float .f64 i)) (.bool b6) ∧ R (.returned (.tuple #[.float .f64 i, .bool b6])) w1) (ifB (d_0 == 4) (Aa Tryz.prog 194 [.float .f64 4607182418800017408, .float .f64 i] w1 (RetR R fun u8 w7 => ∃ x9, u8 = .float .f64 x9 ∧ ∃ x11, Ao Tryz.prog (Op.unary .neg (.float .f64 x9)) (.float .f64 x11) ∧ Aa Tryz.prog 194 [.float .f64 i, .float .f64 x11] w7 (RetR R fun u13 w12 => ∃ x14, u13 = .float .f64 x14 ∧ R (.returned (.tuple #[.float .f64 x14, .bool true])) w12))) (ifB (d_0 == 5) (Aa Tryz.prog 195 [.float .f64 i] w1 (RetR R fun u17 w16 => ∃ x18, u17 = .float .f64 x18 ∧ R (.returned (.tuple #[.float .f64 x18, .bool true])) w16)) (ifB (d_0 == 6) (Aa Tryz.prog 196 [.float .f64 i] w1 (RetR R fun u21 w20 => ∃ x22, u21 = .float .f64 x22 ∧ R (.returned (.tuple #[.float .f64 x22, .bool true])) w20)) (ifB (d_0 == 7) (Aa Tryz.prog 197 [.float .f64 i, .int .i64 d_1] w1 (RetR R fun u25 w24 => ∃ x26, u25 = .float .f64 x26 ∧ R (.returned (.tuple #[.float .f64 x26, .bool true])) w24)) (ifB (d_0 == 8) (SemW Tryz.prog (eqS .quo 41 (.const (.float .f64 4607182418800017408)) (.tmp 51) (.float .f64 4607182418800017408) (.float .f64 i)) (fun u29 w28 => ∃ x30, u29 = .float .f64 x30 ∧ R (.returned (.tuple #[.float .f64 x30, .bool true])) w28) w1) (ifB (d_0 == 9) (SemW Tryz.prog (eqS .sub 41 (.tmp 55) (.tmp 56) (.float .f64 i) (.float .f64 i)) (fun u32 w31 => ∃ x33, u32 = .float .f64 x33 ∧ ∃ b34, Ao Tryz.prog (eqS .neq 41 (.tmp 57) (.const (.float .f64 0)) (.float .f64 x33) (.float .f64 0)) (.bool b34) ∧ ifB b34 (R (.panicked (K0 (.iface 241 (.agg #[])))) w31) (R (.returned (.tuple #[.float .f64 i, .bool true])) w31)) w1) (ifB (d_0 == 10) (∀ w35, Grew w1 w35 → Aa Tryz.prog 119 [.float .f64 i] w35 (RetR R fun u37 w36 => ∃ n38, u37 = .int .i64 n38 ∧ Ad w35 w36 [] ∧ ((n38 = 0 → R (.panicked (Bq Tryz.prog)) w36) ∧ (n38 ≠ 0 → ∀ n40 : Int, n40 = IntKind.i64.wrap (Int.tdiv d_1 n38) → Aa Tryz.prog 198 [.int .i64 n40] w36 (RetR R fun u42 w41 => ∃ x43, u42 = .float .f64 x43 ∧ R (.returned (.tuple #[.float .f64 x43, .bool true])) w41))))) (R (.returned (.tuple #[.float .f64 i, .bool true])) w1))))))))))
theorem sx173.ok {d_0 d_1 : Int} {d_2 i : Nat} {R : Ending → World → Prop} {w : World} (h : sx173 d_0 d_1 d_2 i R w) : Aa Tryz.prog 173 [.agg #[.int .i64 d_0, .int .i64 d_1, .float .f64 d_2], .float .f64 i] w R :=
 okOf { locals := [2], pureTo := [14, 21, 27, 33, 58], sem := [52, 57], named := [67], draws := [(22, { order := (ol [0,1,2,3,4,5,6,7] .nil), bars := [4, 5] })] } mix Tryz.func173 (by kernel_rfl) (by kernel_rfl) (by kernel_rfl) h
def sx139 (o_0 o_1 : Int) (o_2 : Nat) (r_0 : Int) (r_1 : Nat) (R : Ending → World → Prop) (w : World) : Prop :=
 ∀ w1, Grew w w1 → ∀ w2, Grew w1 w2 → ∀ w3, Grew w2 w3 → Aa Tryz.prog 121 [.float .f64 r_1] w3 (RetR R fun u5 w4 => ∃ x6, u5 = .float .f64 x6 ∧ ∃ J8 : Int → Nat → World → Prop, (ifB (o_0 == 11) ((((IntKind.u64.wrap o_1) = 0 → R (.panicked (Bq Tryz.prog)) w4) ∧ ((IntKind.u64.wrap o_1) ≠ 0 → ∀ n9 : Int, n9 = Int.tmod r_0 (IntKind.u64.wrap o_1) → J8 n9 r_1 w4))) (ifB (o_0 == 12) (∀ w10, Grew w4 w10 → (((((4611686018427387904 : Int) = 0 → R (.panicked (Bq Tryz.prog)) w10) ∧ ((4611686018427387904 : Int) ≠ 0 → ∀ n11 : Int, n11 = Int.tmod r_0 4611686018427387904 → Ad w10 w10 [] ∧ Aa Tryz.prog 172 [.float .f64 x6] w10 (RetR R fun u13 w12 => ∃ n14, u13 = .int .u64 n14 ∧ Ad w10 w12 [] ∧ ∀ n16 : Int, n16 = IntKind.u64.wrap ((IntKind.u64.wrap (n11 * 4)) + n14) → J8 n16 r_1 w12)))) ∧ (Aa Tryz.prog 172 [.float .f64 x6] w10 (RetR R fun u18 w17 => ∃ n19, u18 = .int .u64 n19 ∧ Ad w10 w17 [] ∧ (((4611686018427387904 : Int) = 0 → R (.panicked (Bq Tryz.prog)) w17) ∧ ((4611686018427387904 : Int) ≠ 0 → ∀ n21 : Int, n21 = Int.tmod r_0 4611686018427387904 → Ad w17 w17 [] ∧ ∀ n22 : Int, n22 = IntKind.u64.wrap ((IntKind.u64.wrap (n21 * 4)) + n19) → J8 n22 r_1 w17)))))) (J8 r_0 r_1 w4))) ∧ ∀ n23 x24 w25, J8 n23 x24 w25 → Aa Tryz.prog 173 [.agg #[.int .i64 o_0, .int .i64 o_1, .float .f64 o_2], .float .f64 x6] w25 (RetR R fun u27 w26 => ∃ x28 b29, u27 = .tuple #[.float .f64 x28, .bool b29] ∧ Aa Tryz.prog 121 [.float .f64 x28] w26 (RetR R fun u32 w31 => ∃ x33, u32 = .float .f64 x33 ∧ R (.returned (.tuple #[.agg #[.int .u64 n23, .float .f64 x33], .bool b29])) w31)))
theorem sx139.ok {o_0 o_1 : Int} {o_2 : Nat} {r_0 : Int} {r_1 : Nat} {R : Ending → World → Prop} {w : World} (h : sx139 o_0 o_1 o_2 r_0 r_1 R w) : Aa Tryz.prog 139 [.agg #[.int .i64 o_0, .int .i64 o_1, .float .f64 o_2], .agg #[.int .u64 r_0, .float .f64 r_1]] w R :=
 okOf { locals := [2, 3, 4], named := [20, 26, 30], draws := [(6, { order := (ol [0,1,4] (.alt (ol [2,3,5,6,7,8] .nil) (ol [5,2,3,6,7,8] .nil))), bars := [8] })], cuts := [(7, { slots := [], cells := [(3, 43, [.int .u64, .float .f64])] })] } mix Tryz.func139 (by kernel_rfl) (by kernel_rfl) (by kernel_rfl) h
def sx138n (q0 : Nat) (q1 : Nat)  (k : World → Prop) (w : World) : Prop :=
 ∃ b1, Ao Tryz.prog (eqS .neq 20 (.tmp 2) (.const (.nilIface)) (.nilIface) (.nilIface)) (.bool b1) ∧ ifB b1 (Af w ⟨q0, 0, none⟩ 0 [.int .u64 0, .float .f64 0] ∧ ∀ w2, w2 = setCells w ⟨q0, 0, none⟩ 0 [.int .u64 0, .float .f64 0] → Af w2 ⟨q1, 0, none⟩ 0 [.int .i64 3] ∧ ∀ w3, w3 = setCells w2 ⟨q1, 0, none⟩ 0 [.int .i64 3] → k w3) (k w)
theorem sx138n.ok {q0 : Nat} {q1 : Nat}  {k : Option (List PanicEntry) → World → Prop} {w : World} (h : sx138n q0 q1  (k none) w) : Fc Tryz.prog ⟨.fn (.func 138) #[.pointer (some ⟨q0, 0, none⟩), .pointer (some ⟨q1, 0, none⟩)], #[]⟩ none w k :=
 Oi (H := { pureTo := [3] }) (rv := .nilIface) (u2 := none) mix Tryz.func138 (by kernel_rfl) (by simp) (.inl ⟨rfl, rfl, rfl⟩) (args := [.pointer (some ⟨q0, 0, none⟩), .pointer (some ⟨q1, 0, none⟩)]) (by simp) (Eq.mpr (by kernel_rfl : Rs Tryz.prog { pureTo := [3] } Tryz.f138 [.pointer (some ⟨q0, 0, none⟩), .pointer (some ⟨q1, 0, none⟩)] .nilIface (k none) w = sx138n q0 q1  (k none) w) h)
def sx138i (q0 : Nat) (q1 : Nat) (rt : TypeId) (rx : Value) (k : World → Prop) (w : World) : Prop :=
 ∃ b1, Ao Tryz.prog (eqS .neq 20 (.tmp 2) (.const (.nilIface)) (.iface rt (rx)) (.nilIface)) (.bool b1) ∧ ifB b1 (Af w ⟨q0, 0, none⟩ 0 [.int .u64 0, .float .f64 0] ∧ ∀ w2, w2 = setCells w ⟨q0, 0, none⟩ 0 [.int .u64 0, .float .f64 0] → Af w2 ⟨q1, 0, none⟩ 0 [.int .i64 3] ∧ ∀ w3, w3 = setCells w2 ⟨q1, 0, none⟩ 0 [.int .i64 3] → k w3) (k w)
theorem sx138i.ok {q0 : Nat} {q1 : Nat} {rt : TypeId} {rx : Value} {k : Option (List PanicEntry) → World → Prop} {w : World} (h : sx138i q0 q1 rt rx (k none) w) : Fc Tryz.prog ⟨.fn (.func 138) #[.pointer (some ⟨q0, 0, none⟩), .pointer (some ⟨q1, 0, none⟩)], #[]⟩ (some [{ v := .iface rt rx, recovered := false }]) w k :=
 Oi (H := { pureTo := [3] }) (rv := (.iface rt rx)) (u2 := none) mix Tryz.func138 (by kernel_rfl) (by simp) (.inr ⟨rfl, rfl⟩) (args := [.pointer (some ⟨q0, 0, none⟩), .pointer (some ⟨q1, 0, none⟩)]) (by simp) (Eq.mpr (by kernel_rfl : Rs Tryz.prog { pureTo := [3] } Tryz.f138 [.pointer (some ⟨q0, 0, none⟩), .pointer (some ⟨q1, 0, none⟩)] (.iface rt rx) (k none) w = sx138i q0 q1 rt rx (k none) w) h)
def sx118 (list : Option Addr) (list_n list_c : Nat) (r_0 : Int) (r_1 : Nat) (R : Ending → World → Prop) (w : World) : Prop :=
  ∀ w1, Grew w w1 → ∀ b2 w3, Ag w1 w3 b2 (.cells [.int .u64 0, .float .f64 0].toArray 43) → ∀ b4 w5, Ag w3 w5 b4 (.cells [.int .i64 0].toArray 3) → Aa Tryz.prog 121 [.float .f64 r_1] w5 (Ret (fun u7 w6 => ∃ x8, u7 = .float .f64 x8 ∧ ∃ (I10 : Int → Int → Nat → World → Prop) (m10 : Int → Int → Nat → World → Nat), I10 0 r_0 x8 w6 ∧ ∀ n11 n12 x13 w14, I10 n11 n12 x13 w14 → ifB (decide (n11 < ((list_n : Nat) : Int))) (Ab list (fun d15 => (0 ≤ n11 ∧ n11 < (list_n : Nat)) ∧ ∃ n16 n17 x18, Ae w14 (Addr.add d15 (n11.toNat * 3)) 0 [.int .i64 n16, .int .i64 n17, .float .f64 x18] ∧ ∀ w19, Grew w14 w19 → Aa Tryz.prog 139 [.agg #[.int .i64 n16, .int .i64 n17, .float .f64 x18], .agg #[.int .u64 n12, .float .f64 x13]] w19 (Ret (fun u21 w20 => ∃ n22 x23 b24, u21 = .tuple #[.agg #[.int .u64 n22, .float .f64 x23], .bool b24] ∧ ∀ w26, Grew w20 w26 → ifB (!b24) (Af w26 ⟨b2, 0, none⟩ 0 [.int .u64 0, .float .f64 0] ∧ ∀ w27, w27 = setCells w26 ⟨b2, 0, none⟩ 0 [.int .u64 0, .float .f64 0] → Af w27 ⟨b4, 0, none⟩ 0 [.int .i64 2] ∧ ∀ w28, w28 = setCells w27 ⟨b4, 0, none⟩ 0 [.int .i64 2] → Fc Tryz.prog ⟨.fn (.func 138) #[.pointer (some ⟨b2, 0, none⟩), .pointer (some ⟨b4, 0, none⟩)], #[]⟩ none w28 (fun u29 w30 => N7 u29 (∃ n32 x33, Ae w30 ⟨b2, 0, none⟩ 0 [.int .u64 n32, .float .f64 x33] ∧ ∃ n34, w30.cell? ⟨b4, 0, none⟩ = some (.int .i64 n34) ∧ R (.returned (.tuple #[.agg #[.int .u64 n32, .float .f64 x33], .int .i64 n34])) w30) (fun c31 => R (.panicked c31) w30))) ((I10 (IntKind.i64.wrap (n11 + 1)) n22 x23 w26 ∧ m10 (IntKind.i64.wrap (n11 + 1)) n22 x23 w26 < m10 n11 n12 x13 w14))) (fun c25 w20 => Fc Tryz.prog ⟨.fn (.func 138) #[.pointer (some ⟨b2, 0, none⟩), .pointer (some ⟨b4, 0, none⟩)], #[]⟩ (some (c25)) w20 (fun u35 w36 => N7 u35 (∃ n38 x39, Ae w36 ⟨b2, 0, none⟩ 0 [.int .u64 n38, .float .f64 x39] ∧ ∃ n40, w36.cell? ⟨b4, 0, none⟩ = some (.int .i64 n40) ∧ R (.returned (.tuple #[.agg #[.int .u64 n38, .float .f64 x39], .int .i64 n40])) w36) (fun c37 => R (.panicked c37) w36)))))) (Af w14 ⟨b2, 0, none⟩ 0 [.int .u64 n12, .float .f64 x13] ∧ ∀ w41, w41 = setCells w14 ⟨b2, 0, none⟩ 0 [.int .u64 n12, .float .f64 x13] → Af w41 ⟨b4, 0, none⟩ 0 [.int .i64 1] ∧ ∀ w42, w42 = setCells w41 ⟨b4, 0, none⟩ 0 [.int .i64 1] → Fc Tryz.prog ⟨.fn (.func 138) #[.pointer (some ⟨b2, 0, none⟩), .pointer (some ⟨b4, 0, none⟩)], #[]⟩ none w42 (fun u43 w44 => N7 u43 (∃ n46 x47, Ae w44 ⟨b2, 0, none⟩ 0 [.int .u64 n46, .float .f64 x47] ∧ ∃ n48, w44.cell? ⟨b4, 0, none⟩ = some (.int .i64 n48) ∧ R (.returned (.tuple #[.agg #[.int .u64 n46, .float .f64 x47], .int .i64 n48])) w44) (fun c45 => R (.panicked c45) w44)))) (fun c9 w6 => Fc Tryz.prog ⟨.fn (.func 138) #[.pointer (some ⟨b2, 0, none⟩), .pointer (some ⟨b4, 0, none⟩)], #[]⟩ (some (c9)) w6 (fun u49 w50 => N7 u49 (∃ n52 x53, Ae w50 ⟨b2, 0, none⟩ 0 [.int .u64 n52, .float .f64 x53] ∧ ∃ n54, w50.cell? ⟨b4, 0, none⟩ = some (.int .i64 n54) ∧ R (.returned (.tuple #[.agg #[.int
 .u64 n52, .float .f64 x53], .int .i64 n54])) w50) (fun c51 => R (.panicked c51) w50))))
theorem sx118.ok {list : Option Addr} {list_n list_c : Nat} {r_0 : Int} {r_1 : Nat} {R : Ending → World → Prop} {w : World} (h : sx118 list list_n list_c r_0 r_1 R w) : Aa Tryz.prog 118 [.slice list list_n list_c, .agg #[.int .u64 r_0, .float .f64 r_1]] w R :=
 okOf { locals := [3, 7, 8], loops := [(4, { slots := [(17, .int .i64)], cells := [(3, 43, [.int .u64, .float .f64])] })] } mix Tryz.func118 (by kernel_rfl) (by kernel_rfl) (by kernel_rfl) h
def sx72 (list : Option Addr) (list_n list_c : Nat) (r_0 : Int) (r_1 : Nat) (R : Ending → World → Prop) (w : World) : Prop :=
 ∀ w1, Grew w w1 → ∀ w2, Grew w1 w2 → Aa Tryz.prog 42 [.slice list list_n list_c] w2 (RetR R fun u4 w3 => ∃ n5, u4 = .int .i64 n5 ∧ ifB (n5 != 0) (R (.returned (.tuple #[.agg #[.int .u64 0, .float .f64 0], .int .i64 0])) w3) (Aa Tryz.prog 118 [.slice list list_n list_c, .agg #[.int .u64 r_0, .float .f64 r_1]] w3 (RetR R fun u8 w7 => ∃ n9 x10 n11, u8 = .tuple #[.agg #[.int .u64 n9, .float .f64 x10], .int .i64 n11] ∧ R (.returned (.tuple #[.agg #[.int .u64 n9, .float .f64 x10], .int .i64 n11])) w7)))
theorem sx72.ok {list : Option Addr} {list_n list_c : Nat} {r_0 : Int} {r_1 : Nat} {R : Ending → World → Prop} {w : World} (h : sx72 list list_n list_c r_0 r_1 R w) : Aa Tryz.prog 72 [.slice list list_n list_c, .agg #[.int .u64 r_0, .float .f64 r_1]] w R :=
 okOf { locals := [3, 4] } mix Tryz.func72 (by kernel_rfl) (by kernel_rfl) (by kernel_rfl) h
def sx53 (list : Option Addr) (list_n list_c : Nat) (r_0 : Int) (r_1 : Nat) (R : Ending → World → Prop) (w : World) : Prop :=
 ∀ w1, Grew w w1 → Aa Tryz.prog 72 [.slice list list_n list_c, .agg #[.int .u64 r_0, .float .f64 r_1]] w1 (RetR R fun u3 w2 => ∃ n4 x5 n6, u3 = .tuple #[.agg #[.int .u64 n4, .float .f64 x5], .int .i64 n6] ∧ ∀ w8, Grew w2 w8 → R (.returned (.tuple #[.int .u64 n4, .bool (n6 == 1)])) w8)
theorem sx53.ok {list : Option Addr} {list_n list_c : Nat} {r_0 : Int} {r_1 : Nat} {R : Ending → World → Prop} {w : World} (h : sx53 list list_n list_c r_0 r_1 R w) : Aa Tryz.prog 53 [.slice list list_n list_c, .agg #[.int .u64 r_0, .float .f64 r_1]] w R :=
 okOf { locals := [3, 6] } mix Tryz.func53 (by kernel_rfl) (by kernel_rfl) (by kernel_rfl) h
theorem Xz {o : OpV} {w : World} : Aa Tryz.prog 82 [o.v] w (Rets fun v w' => v = .bool (Bn o) ∧ Grew w w') := by
 refine sx82.ok ?_
 unfold sx82
 intro w1 hg1
 have fin : ∀ b, b = Bn o → Rets (fun v w' => v = Value.bool (Bn o) ∧ Grew w w') (.returned (.bool b)) w1 := fun b h => ⟨_, rfl, by rw [h], hg1⟩
 refine ⟨fun h => ⟨fun h2 => fin _ ?_, fun h2 => fin _ ?_⟩, fun h => ⟨fun h2 => fin _ ?_, fun h2 => ⟨fun h3 => fin _ ?_, fun h3 => fin _ ?_⟩⟩⟩
 all_goals simp only [beq_iff_eq, beq_eq_false_iff_ne, ne_eq, decide_eq_true_eq, decide_eq_false_iff_not] at *
 all_goals unfold Bn
 ·rw [if_pos h, decide_eq_decide]; omega
 ·rw [if_pos h]; symm; rw [decide_eq_false_iff_not]; omega
 ·rw [if_neg h, if_pos h2]
 ·rw [if_neg h, if_neg h2, decide_eq_decide]; omega
 ·rw [if_neg h, if_neg h2]; symm; rw [decide_eq_false_iff_not]; omega
theorem Ck {w : World} {d : Addr} {x : OpV} {k : Nat} (h : Ae w (d.add (k * Enc.op3.sz)) 0 (Enc.op3.f x)) : Ae w (Addr.add d (((k : Nat) : Int).toNat * 3)) 0 [.int .i64 x.kind, .int .i64 x.n, .float .f64 x.x] := h
theorem Ll {a : Option Addr} {n c : Nat} {l : List OpV} {w : World} (hr : Reads w Enc.op3 (a, n, c) l) : Aa Tryz.prog 42 [.slice a n c] w (Rets fun v w' => v = .int .i64 (if Aw l then 0 else 30) ∧ Grew w w') := by
 refine sx42.ok ?_
 unfold sx42
 have hn : n = l.length := hr.2.1
 subst hn
 refine ⟨fun h => ?_, fun h => ?_⟩
 ·simp only [decide_eq_true_eq] at h
  have : Aw l = false := by
   unfold Aw
   have : decide (l.length ≤ 8) = false := by rw [decide_eq_false_iff_not]; omega
   rw [this]; rfl
  exact ⟨_, rfl, by rw [this]; rfl, Grew.refl _⟩
 ·simp only [decide_eq_false_iff_not] at h
  refine ⟨fun i w' => ∃ k : Nat, i = k ∧ k ≤ l.length ∧ (l.take k).all Bn = true ∧ Grew w w', fun i _ => l.length - i.toNat, ⟨0, rfl, Nat.zero_le _, rfl, Grew.refl _⟩, ?_⟩
  rintro i w3 ⟨k, rfl, hk, hall, hg3⟩
  refine ⟨fun hlt => ?_, fun hge => ?_⟩
  ·simp only [decide_eq_true_eq] at hlt
   obtain ⟨d, x, rfl, hx, hc⟩ := (hr.grew hg3).at0 (k := k) (by omega)
   have hw : IntKind.i64.wrap ((k : Int) + 1) = ((k + 1 : Nat) : Int) := by rw [IntKind.wrap_i64]; omega
   refine ⟨⟨by omega, by omega⟩, _, _, _, Ck hc, fun w8 hg8 => Xz.use fun v w9 ⟨hv, hg9⟩ => ?_⟩
   subst hv
   have hg9' := hg3.trans (hg8.trans hg9)
   rw [hw]
   refine ⟨_, rfl, fun hb => ?_, fun hb => ⟨⟨k + 1, rfl, by omega, ?_, hg9'⟩, by show l.length - (((k + 1 : Nat) : Int)).toNat < l.length - ((k : Int)).toNat; omega⟩⟩
   ·have : Aw l = false := by
     apply Bool.eq_false_iff.2
     intro hc
     have := (Cu hc).2 x (List.mem_of_getElem? hx)
     rw [this] at hb; cases hb
    exact ⟨_, rfl, by rw [this]; rfl, hg9'⟩
   ·rw [Ak hx, List.all_append, hall]
    have : Bn x = true := by simpa using hb
    simp [this]
  ·simp only [decide_eq_false_iff_not] at hge
   rw [List.take_of_length_le (by omega)] at hall
   have : Aw l = true := by
    unfold Aw
    have : decide (l.length ≤ 8) = true := by rw [decide_eq_true_eq]; omega
    rw [this, hall]; rfl
   exact ⟨_, rfl, by rw [this]; rfl, hg3⟩
theorem Tk {x : Nat} {w : World} : Aa Tryz.prog 172 [.float .f64 x] w (Rets fun v w' => v = .int .u64 (Ie x) ∧ w' = w) := by
 refine sx172.ok ?_
 unfold sx172
 refine ⟨_, Hz, fun h => ⟨_, rfl, by unfold Ie; rw [if_pos h], rfl⟩, fun h0 => ⟨_, Nq, fun h => ⟨_, rfl, by unfold Ie; rw [if_neg (by rw [h0]; simp), if_pos h], rfl⟩, fun h1 => ⟨_, H0, fun h => ⟨_, rfl, by unfold Ie; rw [if_neg (by rw [h0]; simp), if_neg (by rw [h1]; simp), if_pos h], rfl⟩, fun h2 => ⟨_, rfl, by unfold Ie; rw [if_neg (by rw [h0]; simp), if_neg (by rw [h1]; simp), if_neg (by rw [h2]; simp)], rfl⟩⟩⟩⟩
def Aax (o : OpV) (x : Nat) (w : World) (e : Ending) (w' : World) : Prop :=
 Grew w w' ∧ match A0 o x with
  | some (z, b) => ∃ y, e = .returned (.tuple #[.float .f64 y, .bool b]) ∧ Al y = Al z ∧ y < FL
  | none => ∃ t v, e = .panicked (K0 (.iface t v))
theorem Adm {o : OpV} {x : Nat} {w : World} (hx : x < FL) : Aa Tryz.prog 173 [o.v, .float .f64 x] w (Aax o x w) := by
 refine sx173.ok ?_
 unfold sx173
 have c1 : Ep 4607182418800017408 x < FL := Hi hx
 have fin : ∀ {y z : Nat} {b : Bool} {w' : World}, A0 o x = some (z, b) → Al y = Al z → y < FL → Grew w w' → Aax o x w (.returned (.tuple #[.float .f64 y, .bool b])) w' := by
  intro y z b w' h1 h2 h3 hg
  refine ⟨hg, ?_⟩
  rw [h1]; exact ⟨y, rfl, h2, h3⟩
 have pan : ∀ {t : TypeId} {v : Value} {w' : World}, A0 o x = none → Grew w w' → Aax o x w (.panicked (K0 (.iface t v))) w' := by
  intro t v w' h1 hg
  refine ⟨hg, ?_⟩
  rw [h1]; exact ⟨t, v, rfl⟩
 intro w1 hg1
 refine ⟨fun h => ⟨_, Hz, fun w2 hg2 => fin ?_ rfl hx (hg1.trans hg2)⟩, fun h1 => ⟨fun h => ⟨_, H0, fun w2 hg2 => fin ?_ rfl hx (hg1.trans hg2)⟩, fun h2 => ⟨fun h => ⟨_, Zz, fin ?_ rfl hx hg1⟩, fun h3 => ⟨fun h => ?_, fun h4 => ⟨fun h => ?_, fun h5 => ⟨fun h => ?_, fun h6 => ⟨fun h => ?_, fun h7 => ⟨fun h => ?_, fun h8 => ⟨fun h => ?_, fun h9 => ⟨fun h w2 hg2 => ?_, fun h10 => fin ?_ rfl hx hg1⟩⟩⟩⟩⟩⟩⟩⟩⟩⟩
 all_goals simp only [beq_iff_eq, beq_eq_false_iff_ne, ne_eq] at *
 ·unfold A0; rw [if_pos h]
 ·unfold A0; rw [if_neg h1, if_pos h]
 ·unfold A0; rw [if_neg h1, if_neg h2, if_pos h]
 ·refine (Ix (by decide) hx).use fun v w2 ⟨hv, hw⟩ => ?_
  subst hv; subst hw
  refine ⟨_, rfl, _, Z1 c1, (Ix hx (Nr c1)).use fun v w2 ⟨hv, hw⟩ => ?_⟩
  subst hv; subst hw
  exact ⟨_, rfl, fin (by unfold A0; rw [if_neg h1, if_neg h2, if_neg h3, if_pos h]) rfl (Hi (Nr c1)) hg1⟩
 ·refine (Uy hx).use fun v w2 ⟨hv, hw⟩ => ?_
  subst hv; subst hw
  exact ⟨_, rfl, fin (by unfold A0; rw [if_neg h1, if_neg h2, if_neg h3, if_neg h4, if_pos h]) rfl (by omega) hg1⟩
 ·refine (Aac hx).use fun v w2 ⟨hv, hg⟩ => ?_
  subst hv
  exact ⟨_, rfl, fin (by unfold A0; rw [if_neg h1, if_neg h2, if_neg h3, if_neg h4, if_neg h5, if_pos h]) rfl (L6 _) (hg1.trans hg)⟩
 ·refine (Aad hx).use fun v w2 ⟨hv, hg⟩ => ?_
  subst hv
  exact ⟨_, rfl, fin (by unfold A0; rw [if_neg h1, if_neg h2, if_neg h3, if_neg h4, if_neg h5, if_neg h6, if_pos h]) rfl (Qp hx) (hg1.trans hg)⟩
 ·refine Ee (.inr (.inr (.inr rfl))) fun r w2 hg hr => ?_
  obtain ⟨r1, r2⟩ := Wg hr
  exact ⟨r, rfl, fin (by unfold A0; rw [if_neg h1, if_neg h2, if_neg h3, if_neg h4, if_neg h5, if_neg h6, if_neg h7, if_pos h]) r1 r2 (hg1.trans hg)⟩
 ·refine Ee (.inr (.inl rfl)) fun r w2 hg hr => ?_
  have hs := sub_self hr
  have ht : A0 o x = if nanB x || infB x then none else some (x, true) := by unfold A0; rw [if_neg h1, if_neg h2, if_neg h3, if_neg h4, if_neg h5, if_neg h6, if_neg h7, if_neg h8, if_pos h]
  refine ⟨r, rfl, _, Rw, fun hb => pan ?_ (hg1.trans hg), fun hb => fin ?_ rfl hx (hg1.trans hg)⟩
  ·rw [ht, if_pos (by rw [← hs]; exact hb)]
  ·rw [ht, if_neg (by rw [← hs, hb]; simp)]
 ·have ht : A0 o x = if By x = 0 then none else some (numOf (IntKind.i64.wrap (Int.tdiv o.n (By x))), true) := by unfold A0; rw [if_neg h1, if_neg h2, if_neg h3, if_neg h4, if_neg h5, if_neg h6, if_neg h7, if_neg h8, if_neg h9, if_pos h]
  refine S4.use fun v w3 ⟨hv, hw⟩ => ?_
  subst hv; subst hw
  refine ⟨_, rfl, by simp [Ad], fun h0 => pan (by rw [ht, if_pos h0]) (hg1.trans hg2), fun h0 n hn => Ae5.use fun v w4 ⟨hv, hw⟩ => ?_⟩
  subst hv; subst hw; subst hn
  exact ⟨_, rfl, fin (by rw [ht, if_neg h0]) rfl (Om _) (hg1.trans hg2)⟩
 ·unfold A0; rw [if_neg h1, if_neg h2, if_neg h3, if_neg h4, if_neg h5, if_neg h6, if_neg h7, if_neg h8, if_neg h9, if_neg h10]
def Aay (o : OpV) (r : RecV) (w : World) (e : Ending) (w' : World) : Prop :=
 Grew w w' ∧ match Ge o r with
  | some (r', b) => e = .returned (.tuple #[r'.v, .bool b])
  | none => ∃ t v, e = .panicked (K0 (.iface t v))
theorem Aaz {o : OpV} {r : RecV} {w : World} (hs : Bn o = true) (hn : o.n < 9223372036854775808) (hx : r.val < FL) : Aa Tryz.prog 139 [o.v, r.v] w (Aay o r w) := by
 refine sx139.ok ?_
 unfold sx139
 intro w1 hg1 w2 hg2 w3 hg3
 have hg3 := hg1.trans (hg2.trans hg3)
 refine D4.use fun v w4 ⟨hv, hw⟩ => ?_
 subst hv; subst hw
 have nb : ∀ {x y : World}, Ad x y [] := by intro x y; simp [Ad]
 refine ⟨_, rfl, fun k x w' => k = keyB o r.key (Al r.val) ∧ x = r.val ∧ Grew w w', ⟨fun h => ⟨fun h0 => ?_, fun h0 n hn => ⟨?_, rfl, hg3⟩⟩, fun h => ⟨fun h2 w10 hg10 => ⟨⟨fun h0 => (by cases h0), fun _ n11 h11 => ⟨nb, Tk.use fun v w12 ⟨hv, hw⟩ => ?_⟩⟩, Tk.use fun v w12 ⟨hv, hw⟩ => ?_⟩, fun h2 => ⟨?_, rfl, hg3⟩⟩⟩, ?_⟩
 ·exfalso
  simp only [beq_iff_eq] at h
  unfold Bn at hs
  rw [if_neg (by omega), if_pos h] at hs
  simp only [decide_eq_true_eq] at hs
  rw [IntKind.wrap_u64] at h0
  omega
 ·simp only [beq_iff_eq] at h
  unfold keyB; rw [if_pos h]; exact hn
 ·subst hv; subst hw
  refine ⟨_, rfl, nb, fun n16 h16 => ⟨?_, rfl, hg3.trans hg10⟩⟩
  simp only [beq_iff_eq, beq_eq_false_iff_ne, ne_eq] at h h2
  unfold keyB; rw [if_neg h, if_pos h2, h16, h11]
 ·subst hv; subst hw
  refine ⟨_, rfl, nb, fun h0 => (by cases h0), fun _ n21 h21 => ⟨nb, fun n22 h22 => ⟨?_, rfl, hg3.trans hg10⟩⟩⟩
  simp only [beq_iff_eq, beq_eq_false_iff_ne, ne_eq] at h h2
  unfold keyB; rw [if_neg h, if_pos h2, h22, h21]
 ·simp only [beq_eq_false_iff_ne, ne_eq] at h h2
  unfold keyB; rw [if_neg h, if_neg h2]
 rintro k x w25 ⟨rfl, rfl, hg25⟩
 refine (Adm (o := o) (B6 hx)).mono fun e w26 ⟨hg26, hT⟩ => ?_
 unfold Aay Ge
 cases ht : A0 o (Al r.val) with
 | none =>
  rw [ht] at hT
  obtain ⟨t, v, rfl⟩ := hT
  exact ⟨hg25.trans hg26, t, v, rfl⟩
 | some p =>
  obtain ⟨z, b⟩ := p
  rw [ht] at hT
  obtain ⟨y, rfl, hc, hl⟩ := hT
  refine ⟨_, _, rfl, D4.use fun v w27 ⟨hv, hw⟩ => ?_⟩
  subst hv; subst hw
  exact ⟨_, rfl, hg25.trans hg26, by rw [hc]⟩
theorem Qu {w : World} {q0 q1 : Nat} {k : Option (List PanicEntry) → World → Prop} (h : k none w) : Fc Tryz.prog ⟨.fn (.func 138) #[.pointer (some ⟨q0, 0, none⟩), .pointer (some ⟨q1, 0, none⟩)], #[]⟩ none w k := by
 refine sx138n.ok ?_
 unfold sx138n
 exact ⟨false, fun w => rfl, fun h => (by cases h), fun _ => h⟩
theorem Tl {w : World} {q0 q1 : Nat} {t : TypeId} {v : Value} {c0 c1 : List Value} {k : Option (List PanicEntry) → World → Prop} (h0 : Row w q0 43 c0) (h1 : Row w q1 3 c1) (hl0 : c0.length = 2) (hl1 : c1.length = 1) (hne : q0 ≠ q1)
  (h : ∀ w', Upd (fun b => b = q0 ∨ b = q1) w w' → Row w' q0 43 [.int .u64 0, .float .f64 0] → Row w' q1 3 [.int .i64 3] → k none w') : Fc Tryz.prog ⟨.fn (.func 138) #[.pointer (some ⟨q0, 0, none⟩), .pointer (some ⟨q1, 0, none⟩)], #[]⟩ (some (K0 (.iface t v))) w k := by
 refine sx138i.ok ?_
 unfold sx138i
 refine ⟨true, fun w => rfl, fun _ => ?_, fun h => (by cases h)⟩
 obtain ⟨r0, r1, r2⟩ := h0.setAll' (vs := [.int .u64 0, .float .f64 0]) (by rw [hl0]; rfl)
 refine ⟨r0, ?_⟩
 rintro w2 rfl
 obtain ⟨s0, s1, s2⟩ := (h1.upd r2 (fun e => hne e.symm)).setAll' (vs := [.int .i64 3]) (by rw [hl1]; rfl)
 refine ⟨s0, ?_⟩
 rintro w3 rfl
 exact h _ ((r2.mono fun b _ hb => .inl hb).trans (s2.mono fun b _ hb => .inr hb)) (r1.upd s2 hne) s1
theorem Vb {a : Option Addr} {n c : Nat} {l : List OpV} {r : RecV} {w : World} (hr : Reads w Enc.op3 (a, n, c) l) (hl : ∀ o ∈ l, Bn o = true ∧ o.Fits) (hf : r.Fits) (hlen : l.length ≤ 9223372036854775806) :
  Aa Tryz.prog 118 [.slice a n c, r.v] w (Rets fun v w' => v = .tuple #[(Fi l ⟨r.key, Al r.val⟩).1.v, .int .i64 (Fi l ⟨r.key, Al r.val⟩).2] ∧ Grew w w') := by
 refine sx118.ok ?_
 unfold sx118
 have hn : n = l.length := hr.2.1
 subst hn
 intro w1 hg1 b2 w3 hal3 b4 w5 hal5
 have hg5 := hg1.trans (hal3.grew.trans hal5.grew)
 have s1 := hg1.size
 have hb2 : w.heap.size ≤ b2 := Nat.le_trans s1 hal3.new
 have hb4 : w.heap.size ≤ b4 := Nat.le_trans (Nat.le_trans s1 hal3.grew.size) hal5.new
 have hne : b2 ≠ b4 := by have := hal3.lt; have := hal5.new; omega
 refine D4.use' fun v w6 ⟨hv, hw⟩ => ?_
 subst hv; subst hw
 have hr2 : Row w6 b2 43 [.int .u64 0, .float .f64 0] := hal5.grew.heap hal3.at_
 have hr4 : Row w6 b4 3 [.int .i64 0] := hal5.at_
 generalize hR : Fi l ⟨r.key, Al r.val⟩ = R
 refine ⟨_, rfl, fun i k x w' => ∃ j : Nat, i = j ∧ j ≤ l.length ∧ Fi (l.drop j) ⟨k, x⟩ = R ∧ RecV.Fits ⟨k, x⟩ ∧ Grew w w' ∧ Row w' b2 43 [.int .u64 0, .float .f64 0] ∧ Row w' b4 3 [.int .i64 0], fun i _ _ _ => l.length - i.toNat, ⟨0, rfl, Nat.zero_le _, hR, ⟨hf.1, B6 hf.2⟩, hg5, hr2, hr4⟩, ?_⟩
 rintro i k x w14 ⟨j, rfl, hj, hT, hfx, hg14, hr2, hr4⟩
 have up : ∀ {y z : World}, Upd (fun b => b = b2 ∨ b = b4) y z → Grew w y → Grew w z := fun hu hg => hg.then_own hu fun b hb => by
  rcases hb with rfl | rfl <;> assumption
 -- the ending: what the two cells hold is handed back
 have fin : ∀ {w' : World} {rv : RecV} {f : Int}, Row w' b2 43 [.int .u64 rv.key, .float .f64 rv.val] → Row w' b4 3 [.int .i64 f] → (rv, f) = R → Grew w w' →
   (∃ (n32 : Int) (x33 : Nat), Ae w' ⟨b2, 0, none⟩ 0 [.int .u64 n32, .float .f64 x33] ∧ ∃ (n34 : Int), w'.cell? ⟨b4, 0, none⟩ = some (.int .i64 n34) ∧ Rets (fun v w' => v = .tuple #[R.1.v, .int .i64 R.2] ∧ Grew w w') (.returned (.tuple #[.agg #[.int .u64 n32, .float .f64 x33], .int .i64 n34])) w') := by
  intro w' rv f h1 h2 hRR hg
  exact ⟨_, _, h1.cellsAt, _, by rw [h2.cell]; rfl, _, rfl, by rw [← hRR], hg⟩
 have store : ∀ {w' : World} {rv : RecV} {f : Int}, Row w' b2 43 [.int .u64 0, .float .f64 0] → Row w' b4 3 [.int .i64 0] → (rv, f) = R → Grew w w' →
   Af w' ⟨b2, 0, none⟩ 0 [.int .u64 rv.key, .float .f64 rv.val] ∧ ∀ w27, w27 = setCells w' ⟨b2, 0, none⟩ 0 [.int .u64 rv.key, .float .f64 rv.val] → Af w27 ⟨b4, 0, none⟩ 0 [.int .i64 f] ∧ ∀ w28, w28 = setCells w27 ⟨b4, 0, none⟩ 0 [.int .i64 f] →
   Row w28 b2 43 [.int .u64 rv.key, .float .f64 rv.val] ∧ Row w28 b4 3 [.int .i64 f] ∧ Grew w w28 := by
  intro w' rv f h1 h2 hRR hg
  obtain ⟨r0, r1, r2⟩ := h1.setAll' (vs := [.int .u64 rv.key, .float .f64 rv.val]) rfl
  refine ⟨r0, ?_⟩
  rintro w27 rfl
  obtain ⟨s0, s1, s2⟩ := (h2.upd r2 (fun e => hne e.symm)).setAll' (vs := [.int .i64 f]) rfl
  refine ⟨s0, ?_⟩
  rintro w28 rfl
  exact ⟨r1.upd s2 hne, s1, up ((r2.mono fun b _ hb => .inl hb).trans (s2.mono fun b _ hb => .inr hb)) hg⟩
 refine ⟨fun hlt => ?_, fun hge => ?_⟩
 ·simp only [decide_eq_true_eq] at hlt
  obtain ⟨d, o, rfl, ho, hc⟩ := (hr.grew hg14).at0 (k := j) (by omega)
  have hw : IntKind.i64.wrap ((j : Int) + 1) = ((j + 1 : Nat) : Int) := by rw [IntKind.wrap_i64]; omega
  obtain ⟨hos, hof⟩ := hl o (List.mem_of_getElem? ho)
  refine ⟨⟨by omega, by omega⟩, _, _, _, Ck hc, fun w19 hg19 => ?_⟩
  refine (Aaz (o := o) (r := ⟨k, x⟩) hos hof.2.1.2 hfx.2).mono fun e w20 ⟨hg20, hA⟩ => ?_
  have hg20' := hg14.trans (hg19.trans hg20)
  have r2' := (hr2.grew hg19).grew hg20
  have r4' := (hr4.grew hg19).grew hg20
  rw [Hg ho, Fi] at hT
  cases ha : Ge o ⟨k, x⟩ with
  | none =>
   rw [ha] at hA hT
   obtain ⟨t, v, rfl⟩ := hA
   refine Tl (t := t) (v := v) r2' r4' rfl rfl hne fun w' hu h1 h2 => ?_
   exact fin (rv := rec0) h1 h2 hT (up hu hg20')
  | some p =>
   obtain ⟨r', b⟩ := p
   rw [ha] at hA hT
   subst hA
   refine ⟨_, _, _, rfl, fun w26 hg26 => ⟨fun hb => ?_, fun hb => ?_⟩⟩
   ·have hb : b = false := by simpa using hb
    subst hb
    obtain ⟨q0, q1⟩ := store (rv := rec0) (f := 2) (r2'.grew hg26) (r4'.grew hg26) hT (hg20'.trans hg26)
    refine ⟨q0, fun w27 h27 => ?_⟩
    obtain ⟨q2, q3⟩ := q1 w27 h27
    refine ⟨q2, fun w28 h28 => ?_⟩
    obtain ⟨q4, q5, q6⟩ := q3 w28 h28
    exact Qu (fin (rv := rec0) q4 q5 hT q6)
   ·have hb : b = true := by simpa using hb
    subst hb
    rw [hw]
    exact ⟨⟨j + 1, rfl, by omega, hT, I8 hos hof hfx ha, hg20'.trans hg26, r2'.grew hg26, r4'.grew hg26⟩, by show l.length - (((j + 1 : Nat) : Int)).toNat < l.length - ((j : Int)).toNat; omega⟩
 ·simp only [decide_eq_false_iff_not] at hge
  rw [Zx (by omega), Fi] at hT
  obtain ⟨q0, q1⟩ := store (rv := ⟨k, x⟩) (f := 1) hr2 hr4 hT hg14
  refine ⟨q0, fun w27 h27 => ?_⟩
  obtain ⟨q2, q3⟩ := q1 w27 h27
  refine ⟨q2, fun w28 h28 => ?_⟩
  obtain ⟨q4, q5, q6⟩ := q3 w28 h28
  exact Qu (fin (rv := ⟨k, x⟩) q4 q5 hT q6)
theorem Aa0 {a : Option Addr} {n c : Nat} {l : List OpV} {r : RecV} {w : World} (hr : Reads w Enc.op3 (a, n, c) l) (hl : ∀ o ∈ l, o.Fits) (hf : r.Fits) :
  Aa Tryz.prog 72 [.slice a n c, r.v] w (Rets fun v w' => v = .tuple #[(runB l r).1.v, .int .i64 (runB l r).2] ∧ Grew w w') := by
 refine sx72.ok ?_
 unfold sx72
 intro w1 hg1 w2 hg2
 have hg2 := hg1.trans hg2
 refine (Ll (hr.grew hg2)).use fun v w3 ⟨hv, hg3⟩ => ?_
 subst hv
 have hg3' := hg2.trans hg3
 cases hc : Aw l
 ·refine ⟨_, rfl, fun _ => ⟨_, rfl, ?_, hg3'⟩, fun h => (by simp at h)⟩
  unfold runB; rw [hc]; rfl
 ·refine ⟨_, rfl, fun h => (by simp at h), fun _ => ?_⟩
  have hs := Cu hc
  refine (Vb (hr.grew hg3') (fun o ho => ⟨hs.2 o ho, hl o ho⟩) hf (by omega)).use fun v w7 ⟨hv, hg7⟩ => ?_
  subst hv
  exact ⟨_, _, _, rfl, _, rfl, by unfold runB; rw [hc]; rfl, hg3'.trans hg7⟩
theorem Adn {a : Option Addr} {n c : Nat} {l : List OpV} {r : RecV} {w : World} (hr : Reads w Enc.op3 (a, n, c) l) (hl : ∀ o ∈ l, o.Fits) (hf : r.Fits) :
  Aa Tryz.prog 53 [.slice a n c, r.v] w (Rets fun v w' => v = .tuple #[.int .u64 (A8 l r).1, .bool (A8 l r).2] ∧ Grew w w') := by
 refine sx53.ok ?_
 unfold sx53
 intro w1 hg1
 refine (Aa0 (hr.grew hg1) hl hf).use fun v w2 ⟨hv, hg2⟩ => ?_
 subst hv
 refine ⟨_, _, _, rfl, fun w8 hg8 => ⟨_, rfl, ?_, hg1.trans (hg2.trans hg8)⟩⟩
 unfold A8
 congr 1
end Go.Proofs.YtcpkneemhfnanaaGreat
