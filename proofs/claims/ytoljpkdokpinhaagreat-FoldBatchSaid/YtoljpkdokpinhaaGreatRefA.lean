/- What values of aggregates are, in the reference. Conditions: none. -/
import Derived.Test.YtoljpkdokpinhaaGreatProg
import Derived.Test.YtoljpkdokpinhaaGreatRefF
import Derived.Test.YtoljpkdokpinhaaGreatAgg
namespace Go.Proofs.YtoljpkdokpinhaaGreat
open Go.Sx
set_option maxRecDepth 100000
set_option linter.unusedVariables false
set_option linter.unusedSimpArgs false
/- reprise/repriseref01.rank -/
def sx92 (x : Nat) (R : Ending → World → Prop) (w : World) : Prop :=
  CallsW Tryz.prog 51 [.float .f64 x] w (RetR R fun u2 w1 => ∃ (n3 : Int), u2 = .int .i64 n3 ∧ (((n3 == 5) = true → R (.returned (.int .i64 9223372036854775807)) w1) ∧ ((n3 == 5) = false → CallsW Tryz.prog 44 [.float .f64 x]
    w1 (RetR R fun u6 w5 => ∃ (n7 : Int), u6 = .int .u64 n7 ∧ (((decide (n7 ≥ 9223372036854775808)) = true → ∀ n9 : Int, n9 = IntKind.u64.wrap (n7 - 9223372036854775808) → ∀ n10 : Int, n10 = IntKind.i64.wrap ((-1) -
    (IntKind.i64.wrap n9)) → R (.returned (.int .i64 n10)) w5) ∧ ((decide (n7 ≥ 9223372036854775808)) = false → R (.returned (.int .i64 (IntKind.i64.wrap n7))) w5))))))
theorem sx92.ok {x : Nat} {R : Ending → World → Prop} {w : World} (h : sx92 x R w) : CallsW Tryz.prog 92 [.float .f64 x] w R :=
  callsW_of mix Tryz.func92 (by kernel_rfl) (by kernel_rfl) (Eq.mpr (by kernel_rfl : denFn Tryz.prog { named := [12, 14] } Tryz.f92 [.float .f64 x] R w = sx92 x R w) h)

/- reprise/repriseref01.Order -/
def sx72 (a : Nat) (b : Nat) (R : Ending → World → Prop) (w : World) : Prop :=
  CallsW Tryz.prog 92 [.float .f64 a] w (RetR R fun u2 w1 => ∃ (n3 : Int), u2 = .int .i64 n3 ∧ CallsW Tryz.prog 92 [.float .f64 b] w1 (RetR R fun u6 w5 => ∃ (n7 : Int), u6 = .int .i64 n7 ∧ (((decide (n3 < n7)) = true → R
    (.returned (.int .i64 (-1))) w5) ∧ ((decide (n3 < n7)) = false → (((decide (n3 > n7)) = true → R (.returned (.int .i64 1)) w5) ∧ ((decide (n3 > n7)) = false → R (.returned (.int .i64 0)) w5))))))
theorem sx72.ok {a : Nat} {b : Nat} {R : Ending → World → Prop} {w : World} (h : sx72 a b R w) : CallsW Tryz.prog 72 [.float .f64 a, .float .f64 b] w R :=
  callsW_of mix Tryz.func72 (by kernel_rfl) (by kernel_rfl) (Eq.mpr (by kernel_rfl : denFn Tryz.prog {} Tryz.f72 [.float .f64 a, .float .f64 b] R w = sx72 a b R w) h)

/- reprise/repriseref01.Least -/
def sx60 (a : Nat) (b : Nat) (R : Ending → World → Prop) (w : World) : Prop :=
  CallsW Tryz.prog 72 [.float .f64 a, .float .f64 b] w (RetR R fun u2 w1 => ∃ (n3 : Int), u2 = .int .i64 n3 ∧ (((decide (n3 ≤ 0)) = true → CallsW Tryz.prog 38 [.float .f64 a] w1 (RetR R fun u6 w5 => ∃ (x7 : Nat), u6 = .float
    .f64 x7 ∧ R (.returned (.float .f64 x7)) w5)) ∧ ((decide (n3 ≤ 0)) = false → CallsW Tryz.prog 38 [.float .f64 b] w1 (RetR R fun u10 w9 => ∃ (x11 : Nat), u10 = .float .f64 x11 ∧ R (.returned (.float .f64 x11)) w9))))
theorem sx60.ok {a : Nat} {b : Nat} {R : Ending → World → Prop} {w : World} (h : sx60 a b R w) : CallsW Tryz.prog 60 [.float .f64 a, .float .f64 b] w R :=
  callsW_of mix Tryz.func60 (by kernel_rfl) (by kernel_rfl) (Eq.mpr (by kernel_rfl : denFn Tryz.prog {} Tryz.f60 [.float .f64 a, .float .f64 b] R w = sx60 a b R w) h)

/- reprise/repriseref01.Most -/
def sx61 (a : Nat) (b : Nat) (R : Ending → World → Prop) (w : World) : Prop :=
  CallsW Tryz.prog 72 [.float .f64 a, .float .f64 b] w (RetR R fun u2 w1 => ∃ (n3 : Int), u2 = .int .i64 n3 ∧ (((decide (n3 ≥ 0)) = true → CallsW Tryz.prog 38 [.float .f64 a] w1 (RetR R fun u6 w5 => ∃ (x7 : Nat), u6 = .float
    .f64 x7 ∧ R (.returned (.float .f64 x7)) w5)) ∧ ((decide (n3 ≥ 0)) = false → CallsW Tryz.prog 38 [.float .f64 b] w1 (RetR R fun u10 w9 => ∃ (x11 : Nat), u10 = .float .f64 x11 ∧ R (.returned (.float .f64 x11)) w9))))
theorem sx61.ok {a : Nat} {b : Nat} {R : Ending → World → Prop} {w : World} (h : sx61 a b R w) : CallsW Tryz.prog 61 [.float .f64 a, .float .f64 b] w R :=
  callsW_of mix Tryz.func61 (by kernel_rfl) (by kernel_rfl) (Eq.mpr (by kernel_rfl : denFn Tryz.prog {} Tryz.f61 [.float .f64 a, .float .f64 b] R w = sx61 a b R w) h)

/- reprise/repriseref04.Known -/
def sx21 (kind : Int) (R : Ending → World → Prop) (w : World) : Prop :=
  (((decide (kind ≥ 1)) = true → R (.returned (.bool (decide (kind ≤ 4)))) w) ∧ ((decide (kind ≥ 1)) = false → R (.returned (.bool false)) w))
theorem sx21.ok {kind : Int} {R : Ending → World → Prop} {w : World} (h : sx21 kind R w) : CallsW Tryz.prog 21 [.int .i64 kind] w R :=
  callsW_of mix Tryz.func21 (by kernel_rfl) (by kernel_rfl) (Eq.mpr (by kernel_rfl : denFn Tryz.prog {} Tryz.f21 [.int .i64 kind] R w = sx21 kind R w) h)

/- reprise/repriseref04.Of -/
def sx24 (kind : Int) (x : Nat) (R : Ending → World → Prop) (w : World) : Prop :=
  ∀ w1, Grew w w1 → (((kind == 1) = true → R (.returned (.agg #[.bool true, .int .u64 1])) w1) ∧ ((kind == 1) = false → (((kind == 2) = true → CallsW Tryz.prog 43 [.float .f64 x] w1 (RetR R fun u3 w2 => ∃ (n4 : Int), u3 =
    .int .i64 n4 ∧ R (.returned (.agg #[.bool true, .int .u64 (IntKind.u64.wrap n4)])) w2)) ∧ ((kind == 2) = false → (((kind == 3) = true → (((kind == 3) = true → CallsW Tryz.prog 38 [.float .f64 x] w1 (RetR R fun u7 w6 =>
    ∃ (x8 : Nat), u7 = .float .f64 x8 ∧ CallsW Tryz.prog 44 [.float .f64 x8] w6 (RetR R fun u11 w10 => ∃ (n12 : Int), u11 = .int .u64 n12 ∧ R (.returned (.agg #[.bool true, .int .u64 n12])) w10))) ∧ ((kind == 3) = false →
    R (.returned (.agg #[.bool false, .int .u64 0])) w1))) ∧ ((kind == 3) = false → (((kind == 4) = true → CallsW Tryz.prog 38 [.float .f64 x] w1 (RetR R fun u15 w14 => ∃ (x16 : Nat), u15 = .float .f64 x16 ∧ CallsW
    Tryz.prog 44 [.float .f64 x16] w14 (RetR R fun u19 w18 => ∃ (n20 : Int), u19 = .int .u64 n20 ∧ R (.returned (.agg #[.bool true, .int .u64 n20])) w18))) ∧ ((kind == 4) = false → R (.returned (.agg #[.bool false, .int
    .u64 0])) w1))))))))
theorem sx24.ok {kind : Int} {x : Nat} {R : Ending → World → Prop} {w : World} (h : sx24 kind x R w) : CallsW Tryz.prog 24 [.int .i64 kind, .float .f64 x] w R :=
  callsW_of mix Tryz.func24 (by kernel_rfl) (by kernel_rfl) (Eq.mpr (by kernel_rfl : denFn Tryz.prog { locals := [4] } Tryz.f24 [.int .i64 kind, .float .f64 x] R w = sx24 kind x R w) h)

/- reprise/repriseref04.Fit -/
def sx42 (kind : Int) (v_0 : Bool) (v_1 : Int) (R : Ending → World → Prop) (w : World) : Prop :=
  ∀ w1, Grew w w1 → ∀ w2, Grew w1 w2 → CallsW Tryz.prog 21 [.int .i64 kind] w2 (RetR R fun u4 w3 => ∃ (b5 : Bool), u4 = .bool b5 ∧ (((!b5) = true → R (.returned (.agg #[.bool false, .int .u64 0])) w3) ∧ ((!b5) = false →
    (((!v_0) = true → R (.returned (.agg #[.bool false, .int .u64 0])) w3) ∧ ((!v_0) = false → (((decide (kind ≤ 2)) = true → R (.returned (.agg #[.bool v_0, .int .u64 v_1])) w3) ∧ ((decide (kind ≤ 2)) = false → CallsW
    Tryz.prog 52 [.int .u64 v_1] w3 (RetR R fun u8 w7 => ∃ (x9 : Nat), u8 = .float .f64 x9 ∧ CallsW Tryz.prog 24 [.int .i64 kind, .float .f64 x9] w7 (RetR R fun u12 w11 => ∃ (b13 : Bool) (n14 : Int), u12 = .agg #[.bool b13,
    .int .u64 n14] ∧ R (.returned (.agg #[.bool b13, .int .u64 n14])) w11)))))))))
theorem sx42.ok {kind : Int} {v_0 : Bool} {v_1 : Int} {R : Ending → World → Prop} {w : World} (h : sx42 kind v_0 v_1 R w) : CallsW Tryz.prog 42 [.int .i64 kind, .agg #[.bool v_0, .int .u64 v_1]] w R :=
  callsW_of mix Tryz.func42 (by kernel_rfl) (by kernel_rfl) (Eq.mpr (by kernel_rfl : denFn Tryz.prog { locals := [3, 4] } Tryz.f42 [.int .i64 kind, .agg #[.bool v_0, .int .u64 v_1]] R w = sx42 kind v_0 v_1 R w) h)

/- reprise/repriseref04.Merge -/
def sx41 (kind : Int) (a_0 : Bool) (a_1 : Int) (b_0 : Bool) (b_1 : Int) (R : Ending → World → Prop) (w : World) : Prop :=
  ∀ w1, Grew w w1 → ∀ w2, Grew w1 w2 → ∀ w3, Grew w2 w3 → CallsW Tryz.prog 42 [.int .i64 kind, .agg #[.bool a_0, .int .u64 a_1]] w3 (RetR R fun u5 w4 => ∃ (b6 : Bool) (n7 : Int), u5 = .agg #[.bool b6, .int .u64 n7] ∧ CallsW
    Tryz.prog 42 [.int .i64 kind, .agg #[.bool b_0, .int .u64 b_1]] w4 (RetR R fun u10 w9 => ∃ (b11 : Bool) (n12 : Int), u10 = .agg #[.bool b11, .int .u64 n12] ∧ (((!b6) = true → R (.returned (.agg #[.bool b11, .int .u64
    n12])) w9) ∧ ((!b6) = false → (((!b11) = true → R (.returned (.agg #[.bool b6, .int .u64 n7])) w9) ∧ ((!b11) = false → CallsW Tryz.prog 52 [.int .u64 n7] w9 (RetR R fun u15 w14 => ∃ (x16 : Nat), u15 = .float .f64 x16 ∧
    CallsW Tryz.prog 52 [.int .u64 n12] w14 (RetR R fun u19 w18 => ∃ (x20 : Nat), u19 = .float .f64 x20 ∧ (((kind == 3) = true → CallsW Tryz.prog 60 [.float .f64 x16, .float .f64 x20] w18 (RetR R fun u23 w22 => ∃ (x24 :
    Nat), u23 = .float .f64 x24 ∧ CallsW Tryz.prog 24 [.int .i64 3, .float .f64 x24] w22 (RetR R fun u27 w26 => ∃ (b28 : Bool) (n29 : Int), u27 = .agg #[.bool b28, .int .u64 n29] ∧ R (.returned (.agg #[.bool b28, .int .u64
    n29])) w26))) ∧ ((kind == 3) = false → (((kind == 4) = true → CallsW Tryz.prog 61 [.float .f64 x16, .float .f64 x20] w18 (RetR R fun u32 w31 => ∃ (x33 : Nat), u32 = .float .f64 x33 ∧ CallsW Tryz.prog 24 [.int .i64 4,
    .float .f64 x33] w31 (RetR R fun u36 w35 => ∃ (b37 : Bool) (n38 : Int), u36 = .agg #[.bool b37, .int .u64 n38] ∧ R (.returned (.agg #[.bool b37, .int .u64 n38])) w35))) ∧ ((kind == 4) = false → ∀ n40 : Int, n40 =
    IntKind.u64.wrap (n7 + n12) → R (.returned (.agg #[.bool true, .int .u64 n40])) w18))))))))))))
theorem sx41.ok {kind : Int} {a_0 : Bool} {a_1 : Int} {b_0 : Bool} {b_1 : Int} {R : Ending → World → Prop} {w : World} (h : sx41 kind a_0 a_1 b_0 b_1 R w) : CallsW Tryz.prog 41 [.int .i64 kind, .agg #[.bool a_0, .int .u64 a_1], .agg #[.bool b_0, .int .u64 b_1]] w R :=
  callsW_of mix Tryz.func41 (by kernel_rfl) (by kernel_rfl) (Eq.mpr (by kernel_rfl : denFn Tryz.prog { locals := [4, 5, 6], named := [46] } Tryz.f41 [.int .i64 kind, .agg #[.bool a_0, .int .u64 a_1], .agg #[.bool b_0, .int .u64 b_1]] R w = sx41 kind a_0 a_1 b_0 b_1 R w) h)


theorem rank_ok {x : Nat} {w : World} (hx : x < FL) : CallsW Tryz.prog 92 [.float .f64 x] w (Rets fun v w' => v = .int .i64 (rankN x) ∧ w' = w) := by
  refine sx92.ok ?_
  unfold sx92
  have hx' : x < 18446744073709551616 := hx
  refine (Class_ok hx).use fun v w1 ⟨hv, hw⟩ => ?_
  subst hv; subst hw
  refine ⟨_, rfl, fun h => ⟨_, rfl, ?_, rfl⟩, fun h0 => rbits_ok.use fun v w1 ⟨hv, hw⟩ => ?_⟩
  · rw [class5] at h
    rw [rank_nan h]
  · subst hv; subst hw
    rw [class5] at h0
    refine ⟨_, rfl, fun h n9 h9 n10 h10 => ⟨_, rfl, ?_, rfl⟩, fun h => ⟨_, rfl, ?_, rfl⟩⟩
    · simp only [decide_eq_true_eq] at h
      have e9 : n9 = (x : Int) - 9223372036854775808 := by rw [h9, IntKind.wrap_u64]; omega
      have e10 : IntKind.i64.wrap ((x : Int) - 9223372036854775808) = (x : Int) - 9223372036854775808 := by rw [IntKind.wrap_i64]; omega
      have e11 : n10 = -1 - ((x : Int) - 9223372036854775808) := by rw [h10, e9, e10, IntKind.wrap_i64]; omega
      rw [e11]
      unfold rankN; rw [if_neg (by rw [h0]; decide), if_pos (by omega)]
    · simp only [decide_eq_false_iff_not] at h
      rw [wrap_nat (by omega)]
      unfold rankN; rw [if_neg (by rw [h0]; decide), if_neg (by omega)]
theorem ROrder_ok {a b : Nat} {w : World} (ha : a < FL) (hb : b < FL) : CallsW Tryz.prog 72 [.float .f64 a, .float .f64 b] w (Rets fun v w' => v = .int .i64 (ordN a b) ∧ w' = w) := by
  refine sx72.ok ?_
  unfold sx72
  refine (rank_ok ha).use fun v w1 ⟨hv, hw⟩ => ?_
  subst hv; subst hw
  refine ⟨_, rfl, (rank_ok hb).use fun v w1 ⟨hv, hw⟩ => ?_⟩
  subst hv; subst hw
  refine ⟨_, rfl, fun h => ⟨_, rfl, ?_, rfl⟩, fun h => ⟨fun h2 => ⟨_, rfl, ?_, rfl⟩, fun h2 => ⟨_, rfl, ?_, rfl⟩⟩⟩
  all_goals simp only [decide_eq_true_eq, decide_eq_false_iff_not, gt_iff_lt] at *
  all_goals unfold ordN
  · rw [if_pos h]
  · rw [if_neg h, if_pos h2]
  · rw [if_neg h, if_neg h2]
theorem RLeast_ok {a b : Nat} {w : World} (ha : a < FL) (hb : b < FL) : CallsW Tryz.prog 60 [.float .f64 a, .float .f64 b] w (Rets fun v w' => v = .float .f64 (leastF a b) ∧ w' = w) := by
  refine sx60.ok ?_
  unfold sx60
  refine (ROrder_ok ha hb).use fun v w1 ⟨hv, hw⟩ => ?_
  subst hv; subst hw
  refine ⟨_, rfl, fun h => (RCanon_ok ha).use fun v w2 ⟨hv, hw⟩ => ?_, fun h => (RCanon_ok hb).use fun v w2 ⟨hv, hw⟩ => ?_⟩
  · subst hv; subst hw
    simp only [decide_eq_true_eq] at h
    exact ⟨_, rfl, _, rfl, by unfold leastF; rw [if_neg (by omega)], rfl⟩
  · subst hv; subst hw
    simp only [decide_eq_false_iff_not] at h
    exact ⟨_, rfl, _, rfl, by unfold leastF; rw [if_pos (by omega)], rfl⟩
theorem RMost_ok {a b : Nat} {w : World} (ha : a < FL) (hb : b < FL) : CallsW Tryz.prog 61 [.float .f64 a, .float .f64 b] w (Rets fun v w' => v = .float .f64 (mostF a b) ∧ w' = w) := by
  refine sx61.ok ?_
  unfold sx61
  refine (ROrder_ok ha hb).use fun v w1 ⟨hv, hw⟩ => ?_
  subst hv; subst hw
  refine ⟨_, rfl, fun h => (RCanon_ok ha).use fun v w2 ⟨hv, hw⟩ => ?_, fun h => (RCanon_ok hb).use fun v w2 ⟨hv, hw⟩ => ?_⟩
  · subst hv; subst hw
    simp only [decide_eq_true_eq] at h
    exact ⟨_, rfl, _, rfl, by unfold mostF; rw [if_neg (by omega)], rfl⟩
  · subst hv; subst hw
    simp only [decide_eq_false_iff_not] at h
    exact ⟨_, rfl, _, rfl, by unfold mostF; rw [if_pos (by omega)], rfl⟩
theorem RKnown_ok {kind : Int} {w : World} : CallsW Tryz.prog 21 [.int .i64 kind] w (Rets fun v w' => v = .bool (knownB kind) ∧ w' = w) := by
  refine sx21.ok ?_
  unfold sx21
  refine ⟨fun h => ⟨_, rfl, ?_, rfl⟩, fun h => ⟨_, rfl, ?_, rfl⟩⟩
  · simp only [decide_eq_true_eq] at h
    unfold knownB; congr 1; rw [decide_eq_decide]; omega
  · simp only [decide_eq_false_iff_not] at h
    unfold knownB; congr 1; symm; rw [decide_eq_false_iff_not]; omega
theorem ROf_okV {kind : Int} {x : Nat} {w : World} (hx : x < FL) : CallsW Tryz.prog 24 [.int .i64 kind, .float .f64 x] w (Rets fun v w' => v = (ofV kind x).v ∧ Grew w w') := by
  refine sx24.ok ?_
  unfold sx24
  intro w1 hg1
  have bits : ∀ (h : kind = 3 ∨ kind = 4), CallsW Tryz.prog 38 [.float .f64 x] w1 (RetR (Rets fun v w' => v = (ofV kind x).v ∧ Grew w w') fun u17 w16 => ∃ (x18 : Nat), u17 = .float .f64 x18 ∧ CallsW Tryz.prog 44 [.float .f64 x18] w16 (RetR (Rets fun v w' => v = (ofV kind x).v ∧ Grew w w') fun u21 w20 => ∃ (n22 : Int), u21 = .int .u64 n22 ∧ (Rets fun v w' => v = (ofV kind x).v ∧ Grew w w') (.returned (.agg #[.bool true, .int .u64 n22])) w20)) := by
    intro h
    refine (RCanon_ok hx).use fun v w2 ⟨hv, hw⟩ => ?_
    subst hv; subst hw
    refine ⟨_, rfl, rbits_ok.use fun v w2 ⟨hv, hw⟩ => ?_⟩
    subst hv; subst hw
    refine ⟨_, rfl, _, rfl, ?_, hg1⟩
    unfold ofV; rw [if_neg (by omega), if_neg (by omega), if_pos h]
  refine ⟨fun h => ⟨_, rfl, ?_, hg1⟩, fun h1 => ⟨fun h => (RWhole_ok hx).use fun v w2 ⟨hv, hw⟩ => ?_, fun h2 => ⟨fun h => ⟨fun _ => bits ?_, fun h' => (by rw [h] at h'; cases h')⟩, fun h3 => ⟨fun h => bits ?_, fun h => ⟨_, rfl, ?_, hg1⟩⟩⟩⟩⟩
  all_goals simp only [beq_iff_eq, beq_eq_false_iff_ne, ne_eq] at *
  · unfold ofV; rw [if_pos h]
  · subst hv; subst hw
    exact ⟨_, rfl, _, rfl, by unfold ofV; rw [if_neg h1, if_pos h], hg1⟩
  · exact .inl h
  · exact .inr h
  · unfold ofV; rw [if_neg h1, if_neg h2, if_neg (by omega)]; rfl
theorem RFit_ok {kind : Int} {v : ValV} {w : World} (hf : v.Fits) : CallsW Tryz.prog 42 [.int .i64 kind, v.v] w (Rets fun u w' => u = (fitV kind v).v ∧ Grew w w') := by
  refine sx42.ok ?_
  unfold sx42
  intro w1 hg1 w2 hg2
  have hg2 := hg1.trans hg2
  refine RKnown_ok.use fun u w3 ⟨hv, hw⟩ => ?_
  subst hv; subst hw
  refine ⟨_, rfl, fun h => ⟨_, rfl, ?_, hg2⟩, fun h0 => ⟨fun h => ⟨_, rfl, ?_, hg2⟩, fun h1 => ⟨fun h => ⟨_, rfl, ?_, hg2⟩, fun h => ?_⟩⟩⟩
  all_goals simp only [decide_eq_true_eq, decide_eq_false_iff_not, Bool.not_eq_true', Bool.not_eq_false'] at *
  · unfold fitV; rw [if_pos (.inl h)]; rfl
  · unfold fitV; rw [if_pos (.inr h)]; rfl
  · unfold fitV; rw [if_neg (by rw [h0, h1]; simp), if_neg (by omega)]
  · have hk : kind = 3 ∨ kind = 4 := by
      unfold knownB at h0; simp only [decide_eq_true_eq] at h0; omega
    refine rfrom_ok.use fun u w4 ⟨hv, hw⟩ => ?_
    subst hv; subst hw
    refine ⟨_, rfl, (ROf_okV (bits_lt hf)).use fun u w5 ⟨hv, hg⟩ => ?_⟩
    subst hv
    refine ⟨_, _, rfl, _, rfl, ?_, hg2.trans hg⟩
    unfold fitV; rw [if_neg (by rw [h0, h1]; simp), if_pos hk]
theorem RMerge_ok {kind : Int} {a b : ValV} {w : World} (ha : a.Fits) (hb : b.Fits) : CallsW Tryz.prog 41 [.int .i64 kind, a.v, b.v] w (Rets fun u w' => u = (mergeV kind a b).v ∧ Grew w w') := by
  refine sx41.ok ?_
  unfold sx41
  intro w1 hg1 w2 hg2 w3 hg3
  have hg4 := hg1.trans (hg2.trans hg3)
  refine (RFit_ok ha).use fun u w5 ⟨hv, hg5⟩ => ?_
  subst hv
  have hg5 := hg4.trans hg5
  refine ⟨_, _, rfl, (RFit_ok hb).use fun u w10 ⟨hv, hg10⟩ => ?_⟩
  subst hv
  have hg15 := hg5.trans hg10
  have fa := fitV_fits (kind := kind) ha
  have fb := fitV_fits (kind := kind) hb
  have hm : mergeV kind a b = joinV kind (fitV kind a) (fitV kind b) := rfl
  rw [hm]
  generalize fitV kind a = x at fa ⊢
  generalize fitV kind b = y at fb ⊢
  refine ⟨_, _, rfl, fun h => ⟨_, rfl, ?_, hg15⟩, fun h0 => ⟨fun h => ⟨_, rfl, ?_, hg15⟩, fun h1 => rfrom_ok.use fun u w16 ⟨hv, hw⟩ => ?_⟩⟩
  all_goals simp only [Bool.not_eq_true', Bool.not_eq_false'] at *
  · unfold joinV; rw [if_pos h]
  · unfold joinV; rw [if_neg (by rw [h0]; simp), if_pos h]
  subst hv; subst hw
  refine ⟨_, rfl, rfrom_ok.use fun u w16 ⟨hv, hw⟩ => ?_⟩
  subst hv; subst hw
  refine ⟨_, rfl, fun h => (RLeast_ok (bits_lt fa) (bits_lt fb)).use fun u w24 ⟨hv, hw⟩ => ?_, fun h3 => ⟨fun h => (RMost_ok (bits_lt fa) (bits_lt fb)).use fun u w24 ⟨hv, hw⟩ => ?_, fun h4 n hn => ⟨_, rfl, ?_, hg15⟩⟩⟩
  all_goals simp only [beq_iff_eq, beq_eq_false_iff_ne, ne_eq] at *
  · subst hv; subst hw
    refine ⟨_, rfl, (ROf_okV (leastF_lt (bits_lt fa) (bits_lt fb))).use fun u w25 ⟨hv, hg2⟩ => ?_⟩
    subst hv
    refine ⟨_, _, rfl, _, rfl, ?_, hg15.trans hg2⟩
    unfold joinV; rw [if_neg (by rw [h0]; simp), if_neg (by rw [h1]; simp), if_pos h]
  · subst hv; subst hw
    refine ⟨_, rfl, (ROf_okV (mostF_lt (bits_lt fa) (bits_lt fb))).use fun u w25 ⟨hv, hg2⟩ => ?_⟩
    subst hv
    refine ⟨_, _, rfl, _, rfl, ?_, hg15.trans hg2⟩
    unfold joinV; rw [if_neg (by rw [h0]; simp), if_neg (by rw [h1]; simp), if_neg h3, if_pos h]
  · unfold joinV; rw [if_neg (by rw [h0]; simp), if_neg (by rw [h1]; simp), if_neg h3, if_neg h4, hn]
end Go.Proofs.YtoljpkdokpinhaaGreat
