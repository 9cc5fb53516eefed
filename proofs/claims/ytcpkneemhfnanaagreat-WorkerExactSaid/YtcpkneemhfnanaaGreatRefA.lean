/- What values of aggregates are, in the reference. Conditions: none. -/
import Derived.Test.YtcpkneemhfnanaaGreatProg
import Derived.Test.YtcpkneemhfnanaaGreatRefF
import Derived.Test.YtcpkneemhfnanaaGreatAgg
namespace Go.Proofs.YtcpkneemhfnanaaGreat
open Go.Sx
set_option maxRecDepth 100000
set_option linter.unusedVariables false
set_option linter.unusedSimpArgs false
def sx207 (x : Nat) (R : Ending → World → Prop) (w : World) : Prop :=
 Aa Tryz.prog 146 [.float .f64 x] w (RetR R fun u2 w1 => ∃ n3, u2 = .int .i64 n3 ∧ ifB (n3 == 5) (R (.returned (.int .i64 9223372036854775807)) w1) (Aa Tryz.prog 145 [.float .f64 x] w1 (RetR R fun u6 w5 => ∃ n7, u6 = .int .u64 n7 ∧ ifB (decide (n7 ≥ 9223372036854775808)) (∀ n9 : Int, n9 = IntKind.u64.wrap (n7 - 9223372036854775808) → ∀ n10 : Int, n10 = IntKind.i64.wrap ((-1) - (IntKind.i64.wrap n9)) → R (.returned (.int .i64 n10)) w5) (R (.returned (.int .i64 (IntKind.i64.wrap n7))) w5))))
theorem sx207.ok {x : Nat} {R : Ending → World → Prop} {w : World} (h : sx207 x R w) : Aa Tryz.prog 207 [.float .f64 x] w R :=
 okOf { named := [12, 14] } mix Tryz.func207 (by kernel_rfl) (by kernel_rfl) (by kernel_rfl) h
def sx199 (a b : Nat) (R : Ending → World → Prop) (w : World) : Prop :=
 Aa Tryz.prog 207 [.float .f64 a] w (RetR R fun u2 w1 => ∃ n3, u2 = .int .i64 n3 ∧ Aa Tryz.prog 207 [.float .f64 b] w1 (RetR R fun u6 w5 => ∃ n7, u6 = .int .i64 n7 ∧ ifB (decide (n3 < n7)) (R (.returned (.int .i64 (-1))) w5) (ifB (decide (n3 > n7)) (R (.returned (.int .i64 1)) w5) (R (.returned (.int .i64 0)) w5))))
theorem sx199.ok {a b : Nat} {R : Ending → World → Prop} {w : World} (h : sx199 a b R w) : Aa Tryz.prog 199 [.float .f64 a, .float .f64 b] w R :=
 okOf {} mix Tryz.func199 (by kernel_rfl) (by kernel_rfl) (by kernel_rfl) h
def sx174 (a b : Nat) (R : Ending → World → Prop) (w : World) : Prop :=
 Aa Tryz.prog 199 [.float .f64 a, .float .f64 b] w (RetR R fun u2 w1 => ∃ n3, u2 = .int .i64 n3 ∧ ifB (decide (n3 ≤ 0)) (Aa Tryz.prog 128 [.float .f64 a] w1 (RetR R fun u6 w5 => ∃ x7, u6 = .float .f64 x7 ∧ R (.returned (.float .f64 x7)) w5)) (Aa Tryz.prog 128 [.float .f64 b] w1 (RetR R fun u10 w9 => ∃ x11, u10 = .float .f64 x11 ∧ R (.returned (.float .f64 x11)) w9)))
theorem sx174.ok {a b : Nat} {R : Ending → World → Prop} {w : World} (h : sx174 a b R w) : Aa Tryz.prog 174 [.float .f64 a, .float .f64 b] w R :=
 okOf {} mix Tryz.func174 (by kernel_rfl) (by kernel_rfl) (by kernel_rfl) h
def sx175 (a b : Nat) (R : Ending → World → Prop) (w : World) : Prop :=
 Aa Tryz.prog 199 [.float .f64 a, .float .f64 b] w (RetR R fun u2 w1 => ∃ n3, u2 = .int .i64 n3 ∧ ifB (decide (n3 ≥ 0)) (Aa Tryz.prog 128 [.float .f64 a] w1 (RetR R fun u6 w5 => ∃ x7, u6 = .float .f64 x7 ∧ R (.returned (.float .f64 x7)) w5)) (Aa Tryz.prog 128 [.float .f64 b] w1 (RetR R fun u10 w9 => ∃ x11, u10 = .float .f64 x11 ∧ R (.returned (.float .f64 x11)) w9)))
theorem sx175.ok {a b : Nat} {R : Ending → World → Prop} {w : World} (h : sx175 a b R w) : Aa Tryz.prog 175 [.float .f64 a, .float .f64 b] w R :=
 okOf {} mix Tryz.func175 (by kernel_rfl) (by kernel_rfl) (by kernel_rfl) h
def sx80 (kind : Int) (R : Ending → World → Prop) (w : World) : Prop :=
 ifB (decide (kind ≥ 1)) (R (.returned (.bool (decide (kind ≤ 4)))) w) (R (.returned (.bool false)) w)
theorem sx80.ok {kind : Int} {R : Ending → World → Prop} {w : World} (h : sx80 kind R w) : Aa Tryz.prog 80 [.int .i64 kind] w R :=
 okOf {} mix Tryz.func80 (by kernel_rfl) (by kernel_rfl) (by kernel_rfl) h
def sx127 (kind : Int) (x : Nat) (R : Ending → World → Prop) (w : World) : Prop :=
 ∀ w1, Grew w w1 → ifB (kind == 1) (R (.returned (.agg #[.bool true, .int .u64 1])) w1) (ifB (kind == 2) (Aa Tryz.prog 144 [.float .f64 x] w1 (RetR R fun u3 w2 => ∃ n4, u3 = .int .i64 n4 ∧ R (.returned (.agg #[.bool true, .int .u64 (IntKind.u64.wrap n4)])) w2)) (ifB (kind == 3) (ifB (kind == 3) (Aa Tryz.prog 128 [.float .f64 x] w1 (RetR R fun u7 w6 => ∃ x8, u7 = .float .f64 x8 ∧ Aa Tryz.prog 145 [.float .f64 x8] w6 (RetR R fun u11 w10 => ∃ n12, u11 = .int .u64 n12 ∧ R (.returned (.agg #[.bool true, .int .u64 n12])) w10))) (R (.returned (.agg #[.bool false, .int .u64 0])) w1)) (ifB (kind == 4) (Aa Tryz.prog 128 [.float .f64 x] w1 (RetR R fun u15 w14 => ∃ x16, u15 = .float .f64 x16 ∧ Aa Tryz.prog 145 [.float .f64 x16] w14 (RetR R fun u19 w18 => ∃ n20, u19 = .int .u64 n20 ∧ R (.returned (.agg #[.bool true, .int .u64 n20])) w18))) (R (.returned (.agg #[.bool false, .int .u64 0])) w1))))
theorem sx127.ok {kind : Int} {x : Nat} {R : Ending → World → Prop} {w : World} (h : sx127 kind x R w) : Aa Tryz.prog 127 [.int .i64 kind, .float .f64 x] w R :=
 okOf { locals := [4] } mix Tryz.func127 (by kernel_rfl) (by kernel_rfl) (by kernel_rfl) h
def sx143 (kind : Int) (v_0 : Bool) (v_1 : Int) (R : Ending → World → Prop) (w : World) : Prop :=
 ∀ w1, Grew w w1 → ∀ w2, Grew w1 w2 → Aa Tryz.prog 80 [.int .i64 kind] w2 (RetR R fun u4 w3 => ∃ b5, u4 = .bool b5 ∧ ifB (!b5) (R (.returned (.agg #[.bool false, .int .u64 0])) w3) (ifB (!v_0) (R (.returned (.agg #[.bool false, .int .u64 0])) w3) (ifB (decide (kind ≤ 2)) (R (.returned (.agg #[.bool v_0, .int .u64 v_1])) w3) (Aa Tryz.prog 147 [.int .u64 v_1] w3 (RetR R fun u8 w7 => ∃ x9, u8 = .float .f64 x9 ∧ Aa Tryz.prog 127 [.int .i64 kind, .float .f64 x9] w7 (RetR R fun u12 w11 => ∃ b13 n14, u12 = .agg #[.bool b13, .int .u64 n14] ∧ R (.returned (.agg #[.bool b13, .int .u64 n14])) w11))))))
theorem sx143.ok {kind : Int} {v_0 : Bool} {v_1 : Int} {R : Ending → World → Prop} {w : World} (h : sx143 kind v_0 v_1 R w) : Aa Tryz.prog 143 [.int .i64 kind, .agg #[.bool v_0, .int .u64 v_1]] w R :=
 okOf { locals := [3, 4] } mix Tryz.func143 (by kernel_rfl) (by kernel_rfl) (by kernel_rfl) h
def sx142 (kind : Int) (a_0 : Bool) (a_1 : Int) (b_0 : Bool) (b_1 : Int) (R : Ending → World → Prop) (w : World) : Prop :=
 ∀ w1, Grew w w1 → ∀ w2, Grew w1 w2 → ∀ w3, Grew w2 w3 → Aa Tryz.prog 143 [.int .i64 kind, .agg #[.bool a_0, .int .u64 a_1]] w3 (RetR R fun u5 w4 => ∃ b6 n7, u5 = .agg #[.bool b6, .int .u64 n7] ∧ Aa Tryz.prog 143 [.int .i64 kind, .agg #[.bool b_0, .int .u64 b_1]] w4 (RetR R fun u10 w9 => ∃ b11 n12, u10 = .agg #[.bool b11, .int .u64 n12] ∧ ifB (!b6) (R (.returned (.agg #[.bool b11, .int .u64 n12])) w9) (ifB (!b11) (R (.returned (.agg #[.bool b6, .int .u64 n7])) w9) (Aa Tryz.prog 147 [.int .u64 n7] w9 (RetR R fun u15 w14 => ∃ x16, u15 = .float .f64 x16 ∧ Aa Tryz.prog 147 [.int .u64 n12] w14 (RetR R fun u19 w18 => ∃ x20, u19 = .float .f64 x20 ∧ ifB (kind == 3) (Aa Tryz.prog 174 [.float .f64 x16, .float .f64 x20] w18 (RetR R fun u23 w22 => ∃ x24, u23 = .float .f64 x24 ∧ Aa Tryz.prog 127 [.int .i64 3, .float .f64 x24] w22 (RetR R fun u27 w26 => ∃ b28 n29, u27 = .agg #[.bool b28, .int .u64 n29] ∧ R (.returned (.agg #[.bool b28, .int .u64 n29])) w26))) (ifB (kind == 4) (Aa Tryz.prog 175 [.float .f64 x16, .float .f64 x20] w18 (RetR R fun u32 w31 => ∃ x33, u32 = .float .f64 x33 ∧ Aa Tryz.prog 127 [.int .i64 4, .float .f64 x33] w31 (RetR R fun u36 w35 => ∃ b37 n38, u36 = .agg #[.bool b37, .int .u64 n38] ∧ R (.returned (.agg #[.bool b37, .int .u64 n38])) w35))) (∀ n40 : Int, n40 = IntKind.u64.wrap (n7 + n12) → R (.returned (.agg #[.bool true, .int .u64 n40])) w18))))))))
theorem sx142.ok {kind : Int} {a_0 : Bool} {a_1 : Int} {b_0 : Bool} {b_1 : Int} {R : Ending → World → Prop} {w : World} (h : sx142 kind a_0 a_1 b_0 b_1 R w) : Aa Tryz.prog 142 [.int .i64 kind, .agg #[.bool a_0, .int .u64 a_1], .agg #[.bool b_0, .int .u64 b_1]] w R :=
 okOf { locals := [4, 5, 6], named := [46] } mix Tryz.func142 (by kernel_rfl) (by kernel_rfl) (by kernel_rfl) h
theorem W4 {x : Nat} {w : World} (hx : x < FL) : Aa Tryz.prog 207 [.float .f64 x] w (Rets fun v w' => v = .int .i64 (Hj x) ∧ w' = w) := by
 refine sx207.ok ?_
 unfold sx207
 have hx' : x < 18446744073709551616 := hx
 refine (Jf hx).use fun v w1 ⟨hv, hw⟩ => ?_
 subst hv; subst hw
 refine ⟨_, rfl, fun h => ⟨_, rfl, ?_, rfl⟩, fun h0 => Gl.use fun v w1 ⟨hv, hw⟩ => ?_⟩
 ·rw [Pw] at h
  rw [Hk h]
 ·subst hv; subst hw
  rw [Pw] at h0
  refine ⟨_, rfl, fun h n9 h9 n10 h10 => ⟨_, rfl, ?_, rfl⟩, fun h => ⟨_, rfl, ?_, rfl⟩⟩
  ·simp only [decide_eq_true_eq] at h
   have e9 : n9 = (x : Int) - 9223372036854775808 := by rw [h9, IntKind.wrap_u64]; omega
   have e10 : IntKind.i64.wrap ((x : Int) - 9223372036854775808) = (x : Int) - 9223372036854775808 := by rw [IntKind.wrap_i64]; omega
   have e11 : n10 = -1 - ((x : Int) - 9223372036854775808) := by rw [h10, e9, e10, IntKind.wrap_i64]; omega
   rw [e11]
   unfold Hj; rw [if_neg (by rw [h0]; decide), if_pos (by omega)]
  ·simp only [decide_eq_false_iff_not] at h
   rw [Lq (by omega)]
   unfold Hj; rw [if_neg (by rw [h0]; decide), if_neg (by omega)]
theorem Q6 {a b : Nat} {w : World} (ha : a < FL) (hb : b < FL) : Aa Tryz.prog 199 [.float .f64 a, .float .f64 b] w (Rets fun v w' => v = .int .i64 (ordN a b) ∧ w' = w) := by
 refine sx199.ok ?_
 unfold sx199
 refine (W4 ha).use fun v w1 ⟨hv, hw⟩ => ?_
 subst hv; subst hw
 refine ⟨_, rfl, (W4 hb).use fun v w1 ⟨hv, hw⟩ => ?_⟩
 subst hv; subst hw
 refine ⟨_, rfl, fun h => ⟨_, rfl, ?_, rfl⟩, fun h => ⟨fun h2 => ⟨_, rfl, ?_, rfl⟩, fun h2 => ⟨_, rfl, ?_, rfl⟩⟩⟩
 all_goals simp only [decide_eq_true_eq, decide_eq_false_iff_not, gt_iff_lt] at *
 all_goals unfold ordN
 ·rw [if_pos h]
 ·rw [if_neg h, if_pos h2]
 ·rw [if_neg h, if_neg h2]
theorem Yu {a b : Nat} {w : World} (ha : a < FL) (hb : b < FL) : Aa Tryz.prog 174 [.float .f64 a, .float .f64 b] w (Rets fun v w' => v = .float .f64 (H4 a b) ∧ w' = w) := by
 refine sx174.ok ?_
 unfold sx174
 refine (Q6 ha hb).use fun v w1 ⟨hv, hw⟩ => ?_
 subst hv; subst hw
 refine ⟨_, rfl, fun h => (Cs ha).use fun v w2 ⟨hv, hw⟩ => ?_, fun h => (Cs hb).use fun v w2 ⟨hv, hw⟩ => ?_⟩
 ·subst hv; subst hw
  simp only [decide_eq_true_eq] at h
  exact ⟨_, rfl, _, rfl, by unfold H4; rw [if_neg (by omega)], rfl⟩
 ·subst hv; subst hw
  simp only [decide_eq_false_iff_not] at h
  exact ⟨_, rfl, _, rfl, by unfold H4; rw [if_pos (by omega)], rfl⟩
theorem Ab0 {a b : Nat} {w : World} (ha : a < FL) (hb : b < FL) : Aa Tryz.prog 175 [.float .f64 a, .float .f64 b] w (Rets fun v w' => v = .float .f64 (Lk a b) ∧ w' = w) := by
 refine sx175.ok ?_
 unfold sx175
 refine (Q6 ha hb).use fun v w1 ⟨hv, hw⟩ => ?_
 subst hv; subst hw
 refine ⟨_, rfl, fun h => (Cs ha).use fun v w2 ⟨hv, hw⟩ => ?_, fun h => (Cs hb).use fun v w2 ⟨hv, hw⟩ => ?_⟩
 ·subst hv; subst hw
  simp only [decide_eq_true_eq] at h
  exact ⟨_, rfl, _, rfl, by unfold Lk; rw [if_neg (by omega)], rfl⟩
 ·subst hv; subst hw
  simp only [decide_eq_false_iff_not] at h
  exact ⟨_, rfl, _, rfl, by unfold Lk; rw [if_pos (by omega)], rfl⟩
theorem Mn {kind : Int} {w : World} : Aa Tryz.prog 80 [.int .i64 kind] w (Rets fun v w' => v = .bool (Cz kind) ∧ w' = w) := by
 refine sx80.ok ?_
 unfold sx80
 refine ⟨fun h => ⟨_, rfl, ?_, rfl⟩, fun h => ⟨_, rfl, ?_, rfl⟩⟩
 ·simp only [decide_eq_true_eq] at h
  unfold Cz; congr 1; rw [decide_eq_decide]; omega
 ·simp only [decide_eq_false_iff_not] at h
  unfold Cz; congr 1; symm; rw [decide_eq_false_iff_not]; omega
theorem Nv {kind : Int} {x : Nat} {w : World} (hx : x < FL) : Aa Tryz.prog 127 [.int .i64 kind, .float .f64 x] w (Rets fun v w' => v = (ofV kind x).v ∧ Grew w w') := by
 refine sx127.ok ?_
 unfold sx127
 intro w1 hg1
 have bits : ∀ (h : kind = 3 ∨ kind = 4), Aa Tryz.prog 128 [.float .f64 x] w1 (RetR (Rets fun v w' => v = (ofV kind x).v ∧ Grew w w') fun u17 w16 => ∃ (x18 : Nat), u17 = .float .f64 x18 ∧ Aa Tryz.prog 145 [.float .f64 x18] w16 (RetR (Rets fun v w' => v = (ofV kind x).v ∧ Grew w w') fun u21 w20 => ∃ (n22 : Int), u21 = .int .u64 n22 ∧ (Rets fun v w' => v = (ofV kind x).v ∧ Grew w w') (.returned (.agg #[.bool true, .int .u64 n22])) w20)) := by
  intro h
  refine (Cs hx).use fun v w2 ⟨hv, hw⟩ => ?_
  subst hv; subst hw
  refine ⟨_, rfl, Gl.use fun v w2 ⟨hv, hw⟩ => ?_⟩
  subst hv; subst hw
  refine ⟨_, rfl, _, rfl, ?_, hg1⟩
  unfold ofV; rw [if_neg (by omega), if_neg (by omega), if_pos h]
 refine ⟨fun h => ⟨_, rfl, ?_, hg1⟩, fun h1 => ⟨fun h => (Mm hx).use fun v w2 ⟨hv, hw⟩ => ?_, fun h2 => ⟨fun h => ⟨fun _ => bits ?_, fun h' => (by rw [h] at h'; cases h')⟩, fun h3 => ⟨fun h => bits ?_, fun h => ⟨_, rfl, ?_, hg1⟩⟩⟩⟩⟩
 all_goals simp only [beq_iff_eq, beq_eq_false_iff_ne, ne_eq] at *
 ·unfold ofV; rw [if_pos h]
 ·subst hv; subst hw
  exact ⟨_, rfl, _, rfl, by unfold ofV; rw [if_neg h1, if_pos h], hg1⟩
 ·exact .inl h
 ·exact .inr h
 ·unfold ofV; rw [if_neg h1, if_neg h2, if_neg (by omega)]; rfl
theorem Sf {kind : Int} {v : ValV} {w : World} (hf : v.Fits) : Aa Tryz.prog 143 [.int .i64 kind, v.v] w (Rets fun u w' => u = (fitV kind v).v ∧ Grew w w') := by
 refine sx143.ok ?_
 unfold sx143
 intro w1 hg1 w2 hg2
 have hg2 := hg1.trans hg2
 refine Mn.use fun u w3 ⟨hv, hw⟩ => ?_
 subst hv; subst hw
 refine ⟨_, rfl, fun h => ⟨_, rfl, ?_, hg2⟩, fun h0 => ⟨fun h => ⟨_, rfl, ?_, hg2⟩, fun h1 => ⟨fun h => ⟨_, rfl, ?_, hg2⟩, fun h => ?_⟩⟩⟩
 all_goals simp only [decide_eq_true_eq, decide_eq_false_iff_not, Bool.not_eq_true', Bool.not_eq_false'] at *
 ·unfold fitV; rw [if_pos (.inl h)]; rfl
 ·unfold fitV; rw [if_pos (.inr h)]; rfl
 ·unfold fitV; rw [if_neg (by rw [h0, h1]; simp), if_neg (by omega)]
 ·have hk : kind = 3 ∨ kind = 4 := by
   unfold Cz at h0; simp only [decide_eq_true_eq] at h0; omega
  refine Gm.use fun u w4 ⟨hv, hw⟩ => ?_
  subst hv; subst hw
  refine ⟨_, rfl, (Nv (Bu hf)).use fun u w5 ⟨hv, hg⟩ => ?_⟩
  subst hv
  refine ⟨_, _, rfl, _, rfl, ?_, hg2.trans hg⟩
  unfold fitV; rw [if_neg (by rw [h0, h1]; simp), if_pos hk]
theorem Yv {kind : Int} {a b : ValV} {w : World} (ha : a.Fits) (hb : b.Fits) : Aa Tryz.prog 142 [.int .i64 kind, a.v, b.v] w (Rets fun u w' => u = (Cv kind a b).v ∧ Grew w w') := by
 refine sx142.ok ?_
 unfold sx142
 intro w1 hg1 w2 hg2 w3 hg3
 have hg4 := hg1.trans (hg2.trans hg3)
 refine (Sf ha).use fun u w5 ⟨hv, hg5⟩ => ?_
 subst hv
 have hg5 := hg4.trans hg5
 refine ⟨_, _, rfl, (Sf hb).use fun u w10 ⟨hv, hg10⟩ => ?_⟩
 subst hv
 have hg15 := hg5.trans hg10
 have fa := F5 (kind := kind) ha
 have fb := F5 (kind := kind) hb
 have hm : Cv kind a b = Fu kind (fitV kind a) (fitV kind b) := rfl
 rw [hm]
 generalize fitV kind a = x at fa ⊢
 generalize fitV kind b = y at fb ⊢
 refine ⟨_, _, rfl, fun h => ⟨_, rfl, ?_, hg15⟩, fun h0 => ⟨fun h => ⟨_, rfl, ?_, hg15⟩, fun h1 => Gm.use fun u w16 ⟨hv, hw⟩ => ?_⟩⟩
 all_goals simp only [Bool.not_eq_true', Bool.not_eq_false'] at *
 ·unfold Fu; rw [if_pos h]
 ·unfold Fu; rw [if_neg (by rw [h0]; simp), if_pos h]
 subst hv; subst hw
 refine ⟨_, rfl, Gm.use fun u w16 ⟨hv, hw⟩ => ?_⟩
 subst hv; subst hw
 refine ⟨_, rfl, fun h => (Yu (Bu fa) (Bu fb)).use fun u w24 ⟨hv, hw⟩ => ?_, fun h3 => ⟨fun h => (Ab0 (Bu fa) (Bu fb)).use fun u w24 ⟨hv, hw⟩ => ?_, fun h4 n hn => ⟨_, rfl, ?_, hg15⟩⟩⟩
 all_goals simp only [beq_iff_eq, beq_eq_false_iff_ne, ne_eq] at *
 ·subst hv; subst hw
  refine ⟨_, rfl, (Nv (Mb (Bu fa) (Bu fb))).use fun u w25 ⟨hv, hg2⟩ => ?_⟩
  subst hv
  refine ⟨_, _, rfl, _, rfl, ?_, hg15.trans hg2⟩
  unfold Fu; rw [if_neg (by rw [h0]; simp), if_neg (by rw [h1]; simp), if_pos h]
 ·subst hv; subst hw
  refine ⟨_, rfl, (Nv (Oy (Bu fa) (Bu fb))).use fun u w25 ⟨hv, hg2⟩ => ?_⟩
  subst hv
  refine ⟨_, _, rfl, _, rfl, ?_, hg15.trans hg2⟩
  unfold Fu; rw [if_neg (by rw [h0]; simp), if_neg (by rw [h1]; simp), if_neg h3, if_pos h]
 ·unfold Fu; rw [if_neg (by rw [h0]; simp), if_neg (by rw [h1]; simp), if_neg h3, if_neg h4, hn]
end Go.Proofs.YtcpkneemhfnanaaGreat
