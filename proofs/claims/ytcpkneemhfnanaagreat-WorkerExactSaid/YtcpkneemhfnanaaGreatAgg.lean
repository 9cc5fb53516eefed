/- What values of aggregates are, in the program. Conditions: none. -/
import Derived.Test.YtcpkneemhfnanaaGreatProg
import Derived.Test.YtcpkneemhfnanaaGreatMath
import Derived.Test.YtcpkneemhfnanaaGreatSxVa
namespace Go.Proofs.YtcpkneemhfnanaaGreat
open Go.Sx
set_option maxRecDepth 100000
set_option linter.unusedVariables false
set_option linter.unusedSimpArgs false
def sx182 (x : Int) (R : Ending → World → Prop) (w : World) : Prop :=
 R (.returned (.bool (x != x))) w
theorem sx182.ok {x : Int} {R : Ending → World → Prop} {w : World} (h : sx182 x R w) : Aa Tryz.prog 182 [.int .i64 x] w R :=
 okOf {} mix Tryz.func182 (by kernel_rfl) (by kernel_rfl) (by kernel_rfl) h
def sx183 (x : Nat) (R : Ending → World → Prop) (w : World) : Prop :=
 ∃ b1, Ao Tryz.prog (eqS .neq 41 (.tmp 3) (.tmp 4) (.float .f64 x) (.float .f64 x)) (.bool b1) ∧ R (.returned (.bool b1)) w
theorem sx183.ok {x : Nat} {R : Ending → World → Prop} {w : World} (h : sx183 x R w) : Aa Tryz.prog 183 [.float .f64 x] w R :=
 okOf { pureTo := [5] } mix Tryz.func183 (by kernel_rfl) (by kernel_rfl) (by kernel_rfl) h
def sx168 (x y : Int) (R : Ending → World → Prop) (w : World) : Prop :=
 Aa Tryz.prog 182 [.int .i64 x] w (RetR R fun u2 w1 => ∃ b3, u2 = .bool b3 ∧ Aa Tryz.prog 182 [.int .i64 y] w1 (RetR R fun u6 w5 => ∃ b7, u6 = .bool b7 ∧ ifB b3 (ifB b7 (R (.returned (.int .i64 0)) w5) (R (.returned (.int .i64 (-1))) w5)) (ifB b7 (R (.returned (.int .i64 1)) w5) (ifB (decide (x < y)) (R (.returned (.int .i64 (-1))) w5) (ifB (decide (x > y)) (R (.returned (.int .i64 1)) w5) (R (.returned (.int .i64 0)) w5))))))
theorem sx168.ok {x y : Int} {R : Ending → World → Prop} {w : World} (h : sx168 x y R w) : Aa Tryz.prog 168 [.int .i64 x, .int .i64 y] w R :=
 okOf {} mix Tryz.func168 (by kernel_rfl) (by kernel_rfl) (by kernel_rfl) h
def sx167 (x y : Nat) (R : Ending → World → Prop) (w : World) : Prop :=
 Aa Tryz.prog 183 [.float .f64 x] w (RetR R fun u2 w1 => ∃ b3, u2 = .bool b3 ∧ Aa Tryz.prog 183 [.float .f64 y] w1 (RetR R fun u6 w5 => ∃ b7, u6 = .bool b7 ∧ ifB b3 (ifB b7 (R (.returned (.int .i64 0)) w5) (R (.returned (.int .i64 (-1))) w5)) (ifB b7 (R (.returned (.int .i64 1)) w5) (∃ b9, Ao Tryz.prog (eqS .lss 41 (.tmp 14) (.tmp 15) (.float .f64 x) (.float .f64 y)) (.bool b9) ∧ ifB b9 (R (.returned (.int .i64 (-1))) w5) (∃ b10, Ao Tryz.prog (eqS .gtr 41 (.tmp 17) (.tmp 18) (.float .f64 x) (.float .f64 y)) (.bool b10) ∧ ifB b10 (R (.returned (.int .i64 1)) w5) (R (.returned (.int .i64 0)) w5))))))
theorem sx167.ok {x y : Nat} {R : Ending → World → Prop} {w : World} (h : sx167 x y R w) : Aa Tryz.prog 167 [.float .f64 x, .float .f64 y] w R :=
 okOf { pureTo := [16, 19] } mix Tryz.func167 (by kernel_rfl) (by kernel_rfl) (by kernel_rfl) h
def sx166 (vals : Option Addr) (vals_n vals_c : Nat) (R : Ending → World → Prop) (w : World) : Prop :=
 ∃ (I1 : Int → World → Prop) (m1 : Int → World → Nat), I1 0 w ∧ ∀ n2 w3, I1 n2 w3 → ifB (decide (n2 < ((vals_n : Nat) : Int))) (Ab vals (fun d4 => (0 ≤ n2 ∧ n2 < (vals_n : Nat)) ∧ ∃ n5, w3.cell? (Addr.add d4 (n2.toNat * 1)) = some (.int .i64 n5) ∧ ifB (n5 != 0) (R (.returned (.int .i64 n5)) w3) ((I1 (IntKind.i64.wrap (n2 + 1)) w3 ∧ m1 (IntKind.i64.wrap (n2 + 1)) w3 < m1 n2 w3)))) (R (.returned (.int .i64 0)) w3)
theorem sx166.ok {vals : Option Addr} {vals_n vals_c : Nat} {R : Ending → World → Prop} {w : World} (h : sx166 vals vals_n vals_c R w) : Aa Tryz.prog 166 [.slice vals vals_n vals_c] w R :=
 okOf { loops := [(3, { slots := [(8, .int .i64)], cells := [] })] } mix Tryz.func166 (by kernel_rfl) (by kernel_rfl) (by kernel_rfl) h
def sx184 (x : Nat) (R : Ending → World → Prop) (w : World) : Prop :=
 Aa Tryz.prog 120 [.float .f64 x] w (RetR R fun u2 w1 => ∃ n3, u2 = .int .u64 n3 ∧ R (.returned (.bool (decide ((IntKind.i64.wrap n3) < 0)))) w1)
theorem sx184.ok {x : Nat} {R : Ending → World → Prop} {w : World} (h : sx184 x R w) : Aa Tryz.prog 184 [.float .f64 x] w R :=
 okOf {} mix Tryz.func184 (by kernel_rfl) (by kernel_rfl) (by kernel_rfl) h
def sx169 (x : Nat) (R : Ending → World → Prop) (w : World) : Prop :=
 Aa Tryz.prog 184 [.float .f64 x] w (RetR R fun u2 w1 => ∃ b3, u2 = .bool b3 ∧ ifB b3 (R (.returned (.int .i64 0)) w1) (R (.returned (.int .i64 1)) w1))
theorem sx169.ok {x : Nat} {R : Ending → World → Prop} {w : World} (h : sx169 x R w) : Aa Tryz.prog 169 [.float .f64 x] w R :=
 okOf {} mix Tryz.func169 (by kernel_rfl) (by kernel_rfl) (by kernel_rfl) h
def sx133 (a b : Nat) (R : Ending → World → Prop) (w : World) : Prop :=
 ∃ b1, Ao Tryz.prog (eqS .neq 41 (.tmp 6) (.tmp 7) (.float .f64 a) (.float .f64 a)) (.bool b1) ∧ ifB b1 (∃ b2, Ao Tryz.prog (eqS .neq 41 (.tmp 10) (.tmp 11) (.float .f64 b) (.float .f64 b)) (.bool b2) ∧ ifB b2 (R (.returned (.int .i64 0)) w) (∃ b3, Ao Tryz.prog (eqS .neq 41 (.tmp 15) (.tmp 16) (.float .f64 a) (.float .f64 a)) (.bool b3) ∧ ifB b3 (R (.returned (.int .i64 1)) w) (∃ b4, Ao Tryz.prog (eqS .neq 41 (.tmp 19) (.tmp 20) (.float .f64 b) (.float .f64 b)) (.bool b4) ∧ ifB b4 (R (.returned (.int .i64 (-1))) w) (Aa Tryz.prog 167 [.float .f64 a, .float .f64 b] w (RetR R fun u6 w5 => ∃ n7, u6 = .int .i64 n7 ∧ Aa Tryz.prog 169 [.float .f64 a] w5 (RetR R fun u10 w9 => ∃ n11, u10 = .int .i64 n11 ∧ Aa Tryz.prog 169 [.float .f64 b] w9 (RetR R fun u14 w13 => ∃ n15, u14 = .int .i64 n15 ∧ Aa Tryz.prog 168 [.int .i64 n11, .int .i64 n15] w13 (RetR R fun u18 w17 => ∃ n19, u18 = .int .i64 n19 ∧ ∀ b21 w22, Ag w17 w22 b21 (.cells #[.int .i64 n7, .int .i64 n19] 3) → Aa Tryz.prog 166 [.slice (some ⟨b21, 0, none⟩) 2 2] w22 (RetR R fun u24 w23 => ∃ n25, u24 = .int .i64 n25 ∧ R (.returned (.int .i64 n25)) w23))))))))) (∃ b27, Ao Tryz.prog (eqS .neq 41 (.tmp 15) (.tmp 16) (.float .f64 a) (.float .f64 a)) (.bool b27) ∧ ifB b27 (R (.returned (.int .i64 1)) w) (∃ b28, Ao Tryz.prog (eqS .neq 41 (.tmp 19) (.tmp 20) (.float .f64 b) (.float .f64 b)) (.bool b28) ∧ ifB b28 (R (.returned (.int .i64 (-1))) w) (Aa Tryz.prog 167 [.float .f64 a, .float .f64 b] w (RetR R fun u30 w29 => ∃ n31, u30 = .int .i64 n31 ∧ Aa Tryz.prog 169 [.float .f64 a] w29 (RetR R fun u34 w33 => ∃ n35, u34 = .int .i64 n35 ∧ Aa Tryz.prog 169 [.float .f64 b] w33 (RetR R fun u38 w37 => ∃ n39, u38 = .int .i64 n39 ∧ Aa Tryz.prog 168 [.int .i64 n35, .int .i64 n39] w37 (RetR R fun u42 w41 => ∃ n43, u42 = .int .i64 n43 ∧ ∀ b45 w46, Ag w41 w46 b45 (.cells #[.int .i64 n31, .int .i64 n43] 3) → Aa Tryz.prog 166 [.slice (some ⟨b45, 0, none⟩) 2 2] w46 (RetR R fun u48 w47 => ∃ n49, u48 = .int .i64 n49 ∧ R (.returned (.int .i64 n49)) w47))))))))
theorem sx133.ok {a b : Nat} {R : Ending → World → Prop} {w : World} (h : sx133 a b R w) : Aa Tryz.prog 133 [.float .f64 a, .float .f64 b] w R :=
 okOf { pureTo := [8, 12, 17, 21] } mix Tryz.func133 (by kernel_rfl) (by kernel_rfl) (by kernel_rfl) h
def sx111 (a b : Nat) (R : Ending → World → Prop) (w : World) : Prop :=
 Aa Tryz.prog 133 [.float .f64 a, .float .f64 b] w (RetR R fun u2 w1 => ∃ n3, u2 = .int .i64 n3 ∧ ifB (decide (n3 > 0)) (Aa Tryz.prog 121 [.float .f64 b] w1 (RetR R fun u6 w5 => ∃ x7, u6 = .float .f64 x7 ∧ R (.returned (.float .f64 x7)) w5)) (Aa Tryz.prog 121 [.float .f64 a] w1 (RetR R fun u10 w9 => ∃ x11, u10 = .float .f64 x11 ∧ R (.returned (.float .f64 x11)) w9)))
theorem sx111.ok {a b : Nat} {R : Ending → World → Prop} {w : World} (h : sx111 a b R w) : Aa Tryz.prog 111 [.float .f64 a, .float .f64 b] w R :=
 okOf {} mix Tryz.func111 (by kernel_rfl) (by kernel_rfl) (by kernel_rfl) h
def sx112 (a b : Nat) (R : Ending → World → Prop) (w : World) : Prop :=
 Aa Tryz.prog 133 [.float .f64 a, .float .f64 b] w (RetR R fun u2 w1 => ∃ n3, u2 = .int .i64 n3 ∧ ifB (decide (n3 < 0)) (Aa Tryz.prog 121 [.float .f64 b] w1 (RetR R fun u6 w5 => ∃ x7, u6 = .float .f64 x7 ∧ R (.returned (.float .f64 x7)) w5)) (Aa Tryz.prog 121 [.float .f64 a] w1 (RetR R fun u10 w9 => ∃ x11, u10 = .float .f64 x11 ∧ R (.returned (.float .f64 x11)) w9)))
theorem sx112.ok {a b : Nat} {R : Ending → World → Prop} {w : World} (h : sx112 a b R w) : Aa Tryz.prog 112 [.float .f64 a, .float .f64 b] w R :=
 okOf {} mix Tryz.func112 (by kernel_rfl) (by kernel_rfl) (by kernel_rfl) h
def sx65 (kind : Int) (R : Ending → World → Prop) (w : World) : Prop :=
 ifB (decide (kind ≥ 1)) (R (.returned (.bool (decide (kind ≤ 4)))) w) (R (.returned (.bool false)) w)
theorem sx65.ok {kind : Int} {R : Ending → World → Prop} {w : World} (h : sx65 kind R w) : Aa Tryz.prog 65 [.int .i64 kind] w R :=
 okOf {} mix Tryz.func65 (by kernel_rfl) (by kernel_rfl) (by kernel_rfl) h
def sx113 (bits : Int) (R : Ending → World → Prop) (w : World) : Prop :=
 ∀ w1, Grew w w1 → R (.returned (.agg #[.bool true, .int .u64 bits])) w1
theorem sx113.ok {bits : Int} {R : Ending → World → Prop} {w : World} (h : sx113 bits R w) : Aa Tryz.prog 113 [.int .u64 bits] w R :=
 okOf { locals := [2] } mix Tryz.func113 (by kernel_rfl) (by kernel_rfl) (by kernel_rfl) h
def sx73 (kind : Int) (x : Nat) (R : Ending → World → Prop) (w : World) : Prop :=
 ∀ w1, Grew w w1 → ifB (kind == 1) (Aa Tryz.prog 113 [.int .u64 1] w1 (RetR R fun u3 w2 => ∃ b4 n5, u3 = .agg #[.bool b4, .int .u64 n5] ∧ R (.returned (.agg #[.bool b4, .int .u64 n5])) w2)) (ifB (kind == 2) (Aa Tryz.prog 119 [.float .f64 x] w1 (RetR R fun u8 w7 => ∃ n9, u8 = .int .i64 n9 ∧ Aa Tryz.prog 113 [.int .u64 (IntKind.u64.wrap n9)] w7 (RetR R fun u12 w11 => ∃ b13 n14, u12 = .agg #[.bool b13, .int .u64 n14] ∧ R (.returned (.agg #[.bool b13, .int .u64 n14])) w11))) (ifB (kind == 3) (ifB (kind == 3) (Aa Tryz.prog 121 [.float .f64 x] w1 (RetR R fun u17 w16 => ∃ x18, u17 = .float .f64 x18 ∧ Aa Tryz.prog 120 [.float .f64 x18] w16 (RetR R fun u21 w20 => ∃ n22, u21 = .int .u64 n22 ∧ Aa Tryz.prog 113 [.int .u64 n22] w20 (RetR R fun u25 w24 => ∃ b26 n27, u25 = .agg #[.bool b26, .int .u64 n27] ∧ R (.returned (.agg #[.bool b26, .int .u64 n27])) w24)))) (R (.returned (.agg #[.bool false, .int .u64 0])) w1)) (ifB (kind == 4) (Aa Tryz.prog 121 [.float .f64 x] w1 (RetR R fun u30 w29 => ∃ x31, u30 = .float .f64 x31 ∧ Aa Tryz.prog 120 [.float .f64 x31] w29 (RetR R fun u34 w33 => ∃ n35, u34 = .int .u64 n35 ∧ Aa Tryz.prog 113 [.int .u64 n35] w33 (RetR R fun u38 w37 => ∃ b39 n40, u38 = .agg #[.bool b39, .int .u64 n40] ∧ R (.returned (.agg #[.bool b39, .int .u64 n40])) w37)))) (R (.returned (.agg #[.bool false, .int .u64 0])) w1))))
theorem sx73.ok {kind : Int} {x : Nat} {R : Ending → World → Prop} {w : World} (h : sx73 kind x R w) : Aa Tryz.prog 73 [.int .i64 kind, .float .f64 x] w R :=
 okOf { locals := [4] } mix Tryz.func73 (by kernel_rfl) (by kernel_rfl) (by kernel_rfl) h
def sx36 (kind : Int) (v_0 : Bool) (v_1 : Int) (R : Ending → World → Prop) (w : World) : Prop :=
 ∀ w1, Grew w w1 → ∀ w2, Grew w1 w2 → Aa Tryz.prog 65 [.int .i64 kind] w2 (RetR R fun u4 w3 => ∃ b5, u4 = .bool b5 ∧ ifB (!b5) (R (.returned (.agg #[.bool false, .int .u64 0])) w3) (ifB (!v_0) (R (.returned (.agg #[.bool false, .int .u64 0])) w3) (ifB (kind == 3) (Aa Tryz.prog 76 [.int .u64 v_1] w3 (RetR R fun u8 w7 => ∃ x9, u8 = .float .f64 x9 ∧ Aa Tryz.prog 73 [.int .i64 kind, .float .f64 x9] w7 (RetR R fun u12 w11 => ∃ b13 n14, u12 = .agg #[.bool b13, .int .u64 n14] ∧ R (.returned (.agg #[.bool b13, .int .u64 n14])) w11))) (ifB (kind == 4) (Aa Tryz.prog 76 [.int .u64 v_1] w3 (RetR R fun u17 w16 => ∃ x18, u17 = .float .f64 x18 ∧ Aa Tryz.prog 73 [.int .i64 kind, .float .f64 x18] w16 (RetR R fun u21 w20 => ∃ b22 n23, u21 = .agg #[.bool b22, .int .u64 n23] ∧ R (.returned (.agg #[.bool b22, .int .u64 n23])) w20))) (R (.returned (.agg #[.bool v_0, .int .u64 v_1])) w3)))))
theorem sx36.ok {kind : Int} {v_0 : Bool} {v_1 : Int} {R : Ending → World → Prop} {w : World} (h : sx36 kind v_0 v_1 R w) : Aa Tryz.prog 36 [.int .i64 kind, .agg #[.bool v_0, .int .u64 v_1]] w R :=
 okOf { locals := [3, 4] } mix Tryz.func36 (by kernel_rfl) (by kernel_rfl) (by kernel_rfl) h
def sx67 (kind : Int) (a_0 : Bool) (a_1 : Int) (b_0 : Bool) (b_1 : Int) (R : Ending → World → Prop) (w : World) : Prop :=
 ∀ w1, Grew w w1 → ∀ w2, Grew w1 w2 → ∀ w3, Grew w2 w3 → ∀ w4, Grew w3 w4 → Aa Tryz.prog 36 [.int .i64 kind, .agg #[.bool a_0, .int .u64 a_1]] w4 (RetR R fun u6 w5 => ∃ b7 n8, u6 = .agg #[.bool b7, .int .u64 n8] ∧ Ad w4 w5 [] ∧ Aa Tryz.prog 36 [.int .i64 kind, .agg #[.bool b_0, .int .u64 b_1]] w5 (RetR R fun u11 w10 => ∃ b12 n13, u11 = .agg #[.bool b12, .int .u64 n13] ∧ ∀ w15, Grew w10 w15 → Aa Tryz.prog 76 [.int .u64 n8] w15 (RetR R fun u17 w16 => ∃ x18, u17 = .float .f64 x18 ∧ Ad w15 w16 [] ∧ Aa Tryz.prog 76 [.int .u64 n13] w16 (RetR R fun u21 w20 => ∃ x22, u21 = .float .f64 x22 ∧ ifB (!b7) (R (.returned (.agg #[.bool b12, .int .u64 n13])) w20) (ifB (!b12) (R (.returned (.agg #[.bool b7, .int .u64 n8])) w20) (ifB (kind == 3) (Aa Tryz.prog 111 [.float .f64 x18, .float .f64 x22] w20 (RetR R fun u25 w24 => ∃ x26, u25 = .float .f64 x26 ∧ Aa Tryz.prog 73 [.int .i64 kind, .float .f64 x26] w24 (RetR R fun u29 w28 => ∃ b30 n31, u29 = .agg #[.bool b30, .int .u64 n31] ∧ R (.returned (.agg #[.bool b30, .int .u64 n31])) w28))) (ifB (kind == 4) (Aa Tryz.prog 112 [.float .f64 x18, .float .f64 x22] w20 (RetR R fun u34 w33 => ∃ x35, u34 = .float .f64 x35 ∧ Aa Tryz.prog 73 [.int .i64 kind, .float .f64 x35] w33 (RetR R fun u38 w37 => ∃ b39 n40, u38 = .agg #[.bool b39, .int .u64 n40] ∧ R (.returned (.agg #[.bool b39, .int .u64 n40])) w37))) (∀ n42 : Int, n42 = IntKind.u64.wrap (n8 + n13) → Aa Tryz.prog 113 [.int .u64 n42] w20 (RetR R fun u44 w43 => ∃ b45 n46, u44 = .agg #[.bool b45, .int .u64 n46] ∧ R (.returned (.agg #[.bool b45, .int .u64 n46])) w43)))))))))
theorem sx67.ok {kind : Int} {a_0 : Bool} {a_1 : Int} {b_0 : Bool} {b_1 : Int} {R : Ending → World → Prop} {w : World} (h : sx67 kind a_0 a_1 b_0 b_1 R w) : Aa Tryz.prog 67 [.int .i64 kind, .agg #[.bool a_0, .int .u64 a_1], .agg #[.bool b_0, .int .u64 b_1]] w R :=
 okOf { locals := [4, 5, 6], named := [51], draws := [(1, { order := (ol [0,1,3,4,2,5,6,7] .nil), bars := [5, 6, 7] }), (2, { order := (ol [0,1,3,4,2,5,6,7] .nil), bars := [5] })] } mix Tryz.func67 (by kernel_rfl) (by kernel_rfl) (by kernel_rfl) h
theorem Wn {x : Int} {w : World} : Aa Tryz.prog 182 [.int .i64 x] w (Rets fun v w' => v = .bool false ∧ w' = w) := by
 refine sx182.ok ?_
 unfold sx182
 exact ⟨_, rfl, by simp, rfl⟩
theorem Wo {x : Nat} {w : World} : Aa Tryz.prog 183 [.float .f64 x] w (Rets fun v w' => v = .bool (nanB x) ∧ w' = w) := by
 refine sx183.ok ?_
 unfold sx183
 exact ⟨_, D3, _, rfl, rfl, rfl⟩
def cmpZ (x y : Int) : Int := if x < y then -1 else if x > y then 1 else 0
theorem Adj {x y : Int} {w : World} : Aa Tryz.prog 168 [.int .i64 x, .int .i64 y] w (Rets fun v w' => v = .int .i64 (cmpZ x y) ∧ w' = w) := by
 refine sx168.ok ?_
 unfold sx168
 refine Wn.use fun v w1 ⟨hv, hw⟩ => ?_
 subst hv; subst hw
 refine ⟨_, rfl, Wn.use fun v w1 ⟨hv, hw⟩ => ?_⟩
 subst hv; subst hw
 refine ⟨_, rfl, fun h => (by cases h), fun _ => ⟨fun h => (by cases h), fun _ => ⟨fun h => ⟨_, rfl, ?_, rfl⟩, fun h => ⟨fun h2 => ⟨_, rfl, ?_, rfl⟩, fun h2 => ⟨_, rfl, ?_, rfl⟩⟩⟩⟩⟩
 all_goals simp only [decide_eq_true_eq, decide_eq_false_iff_not] at *
 all_goals unfold cmpZ
 ·rw [if_pos h]
 ·rw [if_neg h, if_pos h2]
 ·rw [if_neg h, if_neg h2]
theorem Adk {x y : Nat} {w : World} (hx : nanB x = false) (hy : nanB y = false) : Aa Tryz.prog 167 [.float .f64 x, .float .f64 y] w (Rets fun v w' => v = .int .i64 (if ordB x y == some .lt then -1 else if ordB x y == some .gt then 1 else 0) ∧ w' = w) := by
 refine sx167.ok ?_
 unfold sx167
 refine Wo.use fun v w1 ⟨hv, hw⟩ => ?_
 subst hv; subst hw
 refine ⟨_, rfl, Wo.use fun v w1 ⟨hv, hw⟩ => ?_⟩
 subst hv; subst hw
 rw [hx, hy]
 refine ⟨_, rfl, fun h => (by cases h), fun _ => ⟨fun h => (by cases h), fun _ => ⟨_, Hz, fun h => ⟨_, rfl, by rw [if_pos h], rfl⟩, fun h => ⟨_, H0, fun h2 => ⟨_, rfl, by rw [if_neg (by rw [h]; decide), if_pos h2], rfl⟩, fun h2 => ⟨_, rfl, by rw [if_neg (by rw [h]; decide), if_neg (by rw [h2]; decide)], rfl⟩⟩⟩⟩⟩
theorem Aes {a : Option Addr} {c : Nat} {x y : Int} {w : World} (hr : Reads w (Enc.int .i64) (a, 2, c) [x, y]) : Aa Tryz.prog 166 [.slice a 2 c] w (Rets fun v w' => v = .int .i64 (if x ≠ 0 then x else y) ∧ w' = w) := by
 refine sx166.ok ?_
 unfold sx166
 have cell : ∀ {d : Addr} {k : Nat} {z : Int}, Ae w (d.add (k * (Enc.int .i64).sz)) 0 ((Enc.int .i64).f z) → w.cell? (Addr.add d (((k : Nat) : Int).toNat * 1)) = some (.int .i64 z) := fun h => by
  have := Ai h 0 _ rfl
  simpa [Enc.int, Addr.add_zero'] using this
 refine ⟨fun i w' => ∃ k : Nat, i = k ∧ k ≤ 2 ∧ (k = 1 → x = 0) ∧ (k = 2 → x = 0 ∧ y = 0) ∧ w' = w, fun i _ => 2 - i.toNat, ⟨0, rfl, by omega, by omega, by omega, rfl⟩, ?_⟩
 rintro i w3 ⟨k, rfl, hk, h1, h2, rfl⟩
 have hw : IntKind.i64.wrap ((k : Int) + 1) = ((k + 1 : Nat) : Int) := by rw [IntKind.wrap_i64]; omega
 refine ⟨fun hlt => ?_, fun hge => ?_⟩
 ·simp only [decide_eq_true_eq] at hlt
  obtain ⟨d, z, rfl, hz, hc⟩ := hr.at0 (k := k) (by omega)
  rw [hw]
  refine ⟨⟨by omega, by omega⟩, z, cell hc, fun h => ⟨_, rfl, ?_, rfl⟩, fun h => ⟨⟨k + 1, rfl, by omega, ?_, ?_, rfl⟩, by show 2 - (((k + 1 : Nat) : Int)).toNat < 2 - ((k : Int)).toNat; omega⟩⟩
  all_goals simp only [bne_iff_ne, ne_eq, bne_eq_false_iff_eq] at h
  all_goals rcases (show k = 0 ∨ k = 1 by omega) with rfl | rfl
  all_goals simp at hz; subst hz
  ·rw [if_pos h]
  ·rw [h1 rfl]; simp
  ·intro _; exact h
  ·omega
  ·omega
  ·intro _; exact ⟨h1 rfl, h⟩
 ·simp only [decide_eq_false_iff_not] at hge
  obtain ⟨e1, e2⟩ := h2 (by omega)
  exact ⟨_, rfl, by rw [e1, e2]; rfl, rfl⟩
theorem Va {x : Nat} {w : World} (hx : x < FL) : Aa Tryz.prog 184 [.float .f64 x] w (Rets fun v w' => v = .bool (negB x) ∧ w' = w) := by
 refine sx184.ok ?_
 unfold sx184
 refine Gc.use fun v w1 ⟨hv, hw⟩ => ?_
 subst hv; subst hw
 refine ⟨_, rfl, _, rfl, ?_, rfl⟩
 have hx' : x < 18446744073709551616 := hx
 rw [Iz hx', IntKind.wrap_i64]
 have e : (((x : Int) + 9223372036854775808) % 18446744073709551616 - 9223372036854775808 < 0) ↔ 9223372036854775808 ≤ x := by omega
 rw [decide_eq_decide.2 e]
theorem Tg {x : Nat} {w : World} (hx : x < FL) : Aa Tryz.prog 169 [.float .f64 x] w (Rets fun v w' => v = .int .i64 (if negB x then 0 else 1) ∧ w' = w) := by
 refine sx169.ok ?_
 unfold sx169
 refine (Va hx).use fun v w1 ⟨hv, hw⟩ => ?_
 subst hv; subst hw
 exact ⟨_, rfl, fun h => ⟨_, rfl, by rw [if_pos h], rfl⟩, fun h => ⟨_, rfl, by rw [if_neg (by rw [h]; decide)], rfl⟩⟩
theorem Ti {a b : Nat} {w : World} (ha : a < FL) (hb : b < FL) : Aa Tryz.prog 133 [.float .f64 a, .float .f64 b] w (Rets fun v w' => v = .int .i64 (ordN a b) ∧ Grew w w') := by
 refine sx133.ok ?_
 unfold sx133
 have aa : ∀ (na : nanB a = true), Hj a = 9223372036854775807 := Hk
 have last : ∀ (na : nanB a = false) (nb : nanB b = false) (b21 : Nat) (w22 : World), Ag w w22 b21 (.cells #[.int .i64 (if ordB a b == some .lt then -1 else if ordB a b == some .gt then 1 else 0), .int .i64 (cmpZ (if negB a then 0 else 1) (if negB b then 0 else 1))] 3) →
   Aa Tryz.prog 166 [.slice (some ⟨b21, 0, none⟩) 2 2] w22 (Rets fun v w' => v = .int .i64 (ordN a b) ∧ Grew w w') := by
  intro na nb b21 w22 hal
  have ho := Own.alloc (E := Enc.int .i64) (l := [(if ordB a b == some .lt then -1 else if ordB a b == some .gt then 1 else 0), cmpZ (if negB a then 0 else 1) (if negB b then 0 else 1)]) hal (Nat.le_refl _) rfl (by simp [maxLen])
  refine (Aes ho.reads).rets fun v w' ⟨hv, hw⟩ => ⟨?_, by rw [hw]; exact hal.grew⟩
  rw [hv, Ade ha hb na nb]
  congr 1
  unfold cmpZ
  generalize (ordB a b == some .lt) = p
  generalize (ordB a b == some .gt) = q
  cases p <;> cases q <;> simp
 have both : ∀ (na : nanB a = false) (nb : nanB b = false) {R : Ending → World → Prop} (hR : ∀ v w', v = Value.int .i64 (ordN a b) → Grew w w' → R (.returned v) w'),
   Aa Tryz.prog 167 [.float .f64 a, .float .f64 b] w (RetR R fun u6 w5 => ∃ (n7 : Int), u6 = .int .i64 n7 ∧ Aa Tryz.prog 169 [.float .f64 a] w5 (RetR R fun u10 w9 => ∃ (n11 : Int), u10 = .int .i64 n11 ∧ Aa Tryz.prog 169 [.float .f64 b] w9 (RetR R fun u14 w13 => ∃ (n15 : Int), u14 = .int .i64 n15 ∧ Aa Tryz.prog 168 [.int .i64 n11, .int .i64 n15] w13 (RetR R fun u18 w17 => ∃ (n19 : Int), u18 = .int .i64 n19 ∧ ∀ (b21 : Nat) (w22 : World),
   Ag w17 w22 b21 (.cells #[.int .i64 n7, .int .i64 n19] 3) → Aa Tryz.prog 166 [.slice (some ⟨b21, 0, none⟩) 2 2] w22 (RetR R fun u24 w23 => ∃ (n25 : Int), u24 = .int .i64 n25 ∧ R (.returned (.int .i64 n25)) w23))))) := by
  intro na nb R hR
  refine (Adk na nb).use fun v w1 ⟨hv, hw⟩ => ?_
  subst hv; subst hw
  refine ⟨_, rfl, (Tg ha).use fun v w1 ⟨hv, hw⟩ => ?_⟩
  subst hv; subst hw
  refine ⟨_, rfl, (Tg hb).use fun v w1 ⟨hv, hw⟩ => ?_⟩
  subst hv; subst hw
  refine ⟨_, rfl, Adj.use fun v w1 ⟨hv, hw⟩ => ?_⟩
  subst hv; subst hw
  refine ⟨_, rfl, fun b21 w22 hal => (last na nb b21 w22 hal).use fun v w' ⟨hv, hg⟩ => ?_⟩
  subst hv
  exact ⟨_, rfl, hR _ _ rfl hg⟩
 have fin : ∀ v w', v = Value.int .i64 (ordN a b) → Grew w w' → Rets (fun v w' => v = .int .i64 (ordN a b) ∧ Grew w w') (.returned v) w' := fun v w' hv hg => ⟨_, rfl, hv, hg⟩
 refine ⟨_, D3, fun na => ⟨_, D3, fun nb => ?_, fun nb => ⟨_, D3, fun _ => ?_, fun h => (by rw [na] at h; cases h)⟩⟩, fun na => ⟨_, D3, fun h => (by rw [na] at h; cases h), fun _ => ⟨_, D3, fun nb => ?_, fun nb => both na nb fin⟩⟩⟩
 ·refine fin _ _ ?_ (Grew.refl _)
  unfold ordN; rw [Hk na, Hk nb]; rfl
 ·refine fin _ _ ?_ (Grew.refl _)
  have := M8 hb nb
  unfold ordN; rw [Hk na, if_neg (by omega), if_pos this]
 ·refine fin _ _ ?_ (Grew.refl _)
  have := M8 ha na
  unfold ordN; rw [Hk nb, if_pos this]
theorem Aav {a b : Nat} {w : World} (ha : a < FL) (hb : b < FL) : Aa Tryz.prog 111 [.float .f64 a, .float .f64 b] w (Rets fun v w' => v = .float .f64 (H4 a b) ∧ Grew w w') := by
 refine sx111.ok ?_
 unfold sx111
 refine (Ti ha hb).use fun v w1 ⟨hv, hg⟩ => ?_
 subst hv
 refine ⟨_, rfl, fun h => D4.use fun v w2 ⟨hv, hw⟩ => ?_, fun h => D4.use fun v w2 ⟨hv, hw⟩ => ?_⟩
 ·subst hv; subst hw
  exact ⟨_, rfl, _, rfl, by unfold H4; rw [if_pos (by simpa using h)], hg⟩
 ·subst hv; subst hw
  exact ⟨_, rfl, _, rfl, by unfold H4; rw [if_neg (by simpa using h)], hg⟩
theorem Adl {a b : Nat} {w : World} (ha : a < FL) (hb : b < FL) : Aa Tryz.prog 112 [.float .f64 a, .float .f64 b] w (Rets fun v w' => v = .float .f64 (Lk a b) ∧ Grew w w') := by
 refine sx112.ok ?_
 unfold sx112
 refine (Ti ha hb).use fun v w1 ⟨hv, hg⟩ => ?_
 subst hv
 refine ⟨_, rfl, fun h => D4.use fun v w2 ⟨hv, hw⟩ => ?_, fun h => D4.use fun v w2 ⟨hv, hw⟩ => ?_⟩
 ·subst hv; subst hw
  exact ⟨_, rfl, _, rfl, by unfold Lk; rw [if_pos (by simpa using h)], hg⟩
 ·subst hv; subst hw
  exact ⟨_, rfl, _, rfl, by unfold Lk; rw [if_neg (by simpa using h)], hg⟩
theorem O0 {kind : Int} {w : World} : Aa Tryz.prog 65 [.int .i64 kind] w (Rets fun v w' => v = .bool (Cz kind) ∧ w' = w) := by
 refine sx65.ok ?_
 unfold sx65
 refine ⟨fun h => ⟨_, rfl, ?_, rfl⟩, fun h => ⟨_, rfl, ?_, rfl⟩⟩
 ·simp only [decide_eq_true_eq] at h
  unfold Cz; congr 1; rw [decide_eq_decide]; omega
 ·simp only [decide_eq_false_iff_not] at h
  unfold Cz; congr 1; symm; rw [decide_eq_false_iff_not]; omega
theorem Ns {n : Int} {w : World} : Aa Tryz.prog 113 [.int .u64 n] w (Rets fun v w' => v = (ValV.mk true n).v ∧ Grew w w') := by
 refine sx113.ok ?_
 unfold sx113
 exact fun w1 hg => ⟨_, rfl, rfl, hg⟩
theorem O4 {kind : Int} {x : Nat} {w : World} (hx : x < FL) : Aa Tryz.prog 73 [.int .i64 kind, .float .f64 x] w (Rets fun v w' => v = (ofV kind x).v ∧ Grew w w') := by
 refine sx73.ok ?_
 unfold sx73
 intro w1 hg1
 have bits : ∀ (h : kind = 3 ∨ kind = 4), Aa Tryz.prog 121 [.float .f64 x] w1 (RetR (Rets fun v w' => v = (ofV kind x).v ∧ Grew w w') fun u17 w16 => ∃ (x18 : Nat), u17 = .float .f64 x18 ∧ Aa Tryz.prog 120 [.float .f64 x18] w16 (RetR (Rets fun v w' => v = (ofV kind x).v ∧ Grew w w') fun u21 w20 => ∃ (n22 : Int), u21 = .int .u64 n22 ∧ Aa Tryz.prog 113 [.int .u64 n22]
   w20 (RetR (Rets fun v w' => v = (ofV kind x).v ∧ Grew w w') fun u25 w24 => ∃ (b26 : Bool) (n27 : Int), u25 = .agg #[.bool b26, .int .u64 n27] ∧ (Rets fun v w' => v = (ofV kind x).v ∧ Grew w w') (.returned (.agg #[.bool b26, .int .u64 n27])) w24))) := by
  intro h
  refine D4.use fun v w2 ⟨hv, hw⟩ => ?_
  subst hv; subst hw
  refine ⟨_, rfl, Gc.use fun v w2 ⟨hv, hw⟩ => ?_⟩
  subst hv; subst hw
  refine ⟨_, rfl, Ns.use fun v w2 ⟨hv, hg⟩ => ?_⟩
  subst hv
  refine ⟨_, _, rfl, _, rfl, ?_, hg1.trans hg⟩
  unfold ofV; rw [if_neg (by omega), if_neg (by omega), if_pos h]
 refine ⟨fun h => Ns.use fun v w2 ⟨hv, hg⟩ => ?_, fun h1 => ⟨fun h => S4.use fun v w2 ⟨hv, hw⟩ => ?_, fun h2 => ⟨fun h => ⟨fun _ => bits ?_, fun h' => (by rw [h] at h'; cases h')⟩, fun h3 => ⟨fun h => bits ?_, fun h => ⟨_, rfl, ?_, hg1⟩⟩⟩⟩⟩
 all_goals simp only [beq_iff_eq, beq_eq_false_iff_ne, ne_eq] at *
 ·subst hv
  exact ⟨_, _, rfl, _, rfl, by unfold ofV; rw [if_pos h], hg1.trans hg⟩
 ·subst hv; subst hw
  refine ⟨_, rfl, Ns.use fun v w3 ⟨hv, hg⟩ => ?_⟩
  subst hv
  exact ⟨_, _, rfl, _, rfl, by unfold ofV; rw [if_neg h1, if_pos h], hg1.trans hg⟩
 ·exact .inl h
 ·exact .inr h
 ·unfold ofV; rw [if_neg h1, if_neg h2, if_neg (by omega)]; rfl
theorem Aaw {kind : Int} {v : ValV} {w : World} (hf : v.Fits) : Aa Tryz.prog 36 [.int .i64 kind, v.v] w (Rets fun u w' => u = (fitV kind v).v ∧ Grew w w') := by
 refine sx36.ok ?_
 unfold sx36
 intro w1 hg1 w2 hg2
 have hg2 := hg1.trans hg2
 refine O0.use fun u w3 ⟨hv, hw⟩ => ?_
 subst hv; subst hw
 have bits : ∀ (hk : Cz kind = true) (hh : v.has = true) (h : kind = 3 ∨ kind = 4), Aa Tryz.prog 76 [.int .u64 v.bits] w3 (RetR (Rets fun u w' => u = (fitV kind v).v ∧ Grew w w') fun u8 w7 => ∃ (x9 : Nat), u8 = .float .f64 x9 ∧ Aa Tryz.prog 73 [.int .i64 kind, .float .f64 x9] w7 (RetR (Rets fun u w' => u = (fitV kind v).v ∧ Grew w w') fun u12 w11 => ∃ (b13 : Bool) (n14 : Int), u12 = .agg #[.bool b13, .int .u64 n14] ∧ (Rets fun u w' => u = (fitV kind v).v ∧ Grew w w') (.returned (.agg #[.bool b13, .int .u64 n14])) w11)) := by
  intro hk hh h
  refine Dm.use fun u w4 ⟨hv, hw⟩ => ?_
  subst hv; subst hw
  refine ⟨_, rfl, (O4 (Bu hf)).use fun u w5 ⟨hv, hg⟩ => ?_⟩
  subst hv
  refine ⟨_, _, rfl, _, rfl, ?_, hg2.trans hg⟩
  unfold fitV; rw [if_neg (by rw [hk, hh]; simp), if_pos h]
 refine ⟨_, rfl, fun h => ⟨_, rfl, ?_, hg2⟩, fun h0 => ⟨fun h => ⟨_, rfl, ?_, hg2⟩, fun h1 => ⟨fun h => bits ?_ ?_ ?_, fun h3 => ⟨fun h => bits ?_ ?_ ?_, fun h4 => ⟨_, rfl, ?_, hg2⟩⟩⟩⟩⟩
 all_goals simp only [beq_iff_eq, beq_eq_false_iff_ne, ne_eq, Bool.not_eq_true', Bool.not_eq_false'] at *
 ·unfold fitV; rw [if_pos (.inl h)]; rfl
 ·unfold fitV; rw [if_pos (.inr h)]; rfl
 ·exact h0
 ·exact h1
 ·exact .inl h
 ·exact h0
 ·exact h1
 ·exact .inr h
 ·unfold fitV; rw [if_neg (by rw [h0, h1]; simp), if_neg (by omega)]
theorem Tj {kind : Int} {a b : ValV} {w : World} (ha : a.Fits) (hb : b.Fits) : Aa Tryz.prog 67 [.int .i64 kind, a.v, b.v] w (Rets fun u w' => u = (Cv kind a b).v ∧ Grew w w') := by
 refine sx67.ok ?_
 unfold sx67
 have nb : ∀ {x y : World}, Ad x y [] := by intro x y; simp [Ad]
 intro w1 hg1 w2 hg2 w3 hg3 w4 hg4
 have hg4 := hg1.trans (hg2.trans (hg3.trans hg4))
 refine (Aaw ha).use fun u w5 ⟨hv, hg5⟩ => ?_
 subst hv
 have hg5 := hg4.trans hg5
 refine ⟨_, _, rfl, nb, (Aaw hb).use fun u w10 ⟨hv, hg10⟩ => ?_⟩
 subst hv
 have hg10 := hg5.trans hg10
 refine ⟨_, _, rfl, fun w15 hg15 => Dm.use fun u w16 ⟨hv, hw⟩ => ?_⟩
 subst hv; subst hw
 have hg15 := hg10.trans hg15
 refine ⟨_, rfl, nb, Dm.use fun u w16 ⟨hv, hw⟩ => ?_⟩
 subst hv; subst hw
 have fa := F5 (kind := kind) ha
 have fb := F5 (kind := kind) hb
 have hm : Cv kind a b = Fu kind (fitV kind a) (fitV kind b) := rfl
 rw [hm]
 generalize fitV kind a = x at fa ⊢
 generalize fitV kind b = y at fb ⊢
 refine ⟨_, rfl, fun h => ⟨_, rfl, ?_, hg15⟩, fun h0 => ⟨fun h => ⟨_, rfl, ?_, hg15⟩, fun h1 => ⟨fun h => (Aav (Bu fa) (Bu fb)).use fun u w24 ⟨hv, hg⟩ => ?_, fun h3 => ⟨fun h => (Adl (Bu fa) (Bu fb)).use fun u w24 ⟨hv, hg⟩ => ?_, fun h4 n hn => Ns.use fun u w24 ⟨hv, hg⟩ => ?_⟩⟩⟩⟩
 all_goals simp only [beq_iff_eq, beq_eq_false_iff_ne, ne_eq, Bool.not_eq_true', Bool.not_eq_false'] at *
 ·unfold Fu; rw [if_pos h]
 ·unfold Fu; rw [if_neg (by rw [h0]; simp), if_pos h]
 ·subst hv
  refine ⟨_, rfl, (O4 (Mb (Bu fa) (Bu fb))).use fun u w25 ⟨hv, hg2⟩ => ?_⟩
  subst hv
  refine ⟨_, _, rfl, _, rfl, ?_, hg15.trans (hg.trans hg2)⟩
  unfold Fu; rw [if_neg (by rw [h0]; simp), if_neg (by rw [h1]; simp), if_pos h, h]
 ·subst hv
  refine ⟨_, rfl, (O4 (Oy (Bu fa) (Bu fb))).use fun u w25 ⟨hv, hg2⟩ => ?_⟩
  subst hv
  refine ⟨_, _, rfl, _, rfl, ?_, hg15.trans (hg.trans hg2)⟩
  unfold Fu; rw [if_neg (by rw [h0]; simp), if_neg (by rw [h1]; simp), if_neg h3, if_pos h, h]
 ·subst hv
  refine ⟨_, _, rfl, _, rfl, ?_, hg15.trans hg⟩
  unfold Fu; rw [if_neg (by rw [h0]; simp), if_neg (by rw [h1]; simp), if_neg h3, if_neg h4, hn]
end Go.Proofs.YtcpkneemhfnanaaGreat
