/- What Go's math and fbit hand back. Conditions: none. -/
import Derived.Test.YtcpkneemhfnanaaGreatProg
import Derived.Test.YtcpkneemhfnanaaGreatBase
import Derived.Test.YtcpkneemhfnanaaGreatSxFb
namespace Go.Proofs.YtcpkneemhfnanaaGreat
open Go.Sx
set_option maxRecDepth 100000
set_option linter.unusedVariables false
set_option linter.unusedSimpArgs false
def sx195 (x : Nat) (R : Ending → World → Prop) (w : World) : Prop :=
 Aa Tryz.prog 120 [.float .f64 x] w (RetR R fun u2 w1 => ∃ n3, u2 = .int .u64 n3 ∧ ∀ n5 : Int, n5 = Go.bits .andNot .u64 n3 9223372036854775808 → Aa Tryz.prog 76 [.int .u64 n5] w1 (RetR R fun u7 w6 => ∃ x8, u7 = .float .f64 x8 ∧ R (.returned (.float .f64 x8)) w6))
theorem sx195.ok {x : Nat} {R : Ending → World → Prop} {w : World} (h : sx195 x R w) : Aa Tryz.prog 195 [.float .f64 x] w R :=
 okOf { named := [5] } mix Tryz.func195 (by kernel_rfl) (by kernel_rfl) (by kernel_rfl) h
def sx194 (f sign : Nat) (R : Ending → World → Prop) (w : World) : Prop :=
 Aa Tryz.prog 120 [.float .f64 f] w (RetR R fun u2 w1 => ∃ n3, u2 = .int .u64 n3 ∧ ∀ n5 : Int, n5 = Go.bits .andNot .u64 n3 9223372036854775808 → Aa Tryz.prog 120 [.float .f64 sign] w1 (RetR R fun u7 w6 => ∃ n8, u7 = .int .u64 n8 ∧ ∀ n10 : Int, n10 = Go.bits .and .u64 n8 9223372036854775808 → Aa Tryz.prog 76 [.int .u64 (Go.bits .or .u64 n5 n10)] w6 (RetR R fun u12 w11 => ∃ x13, u12 = .float .f64 x13 ∧ R (.returned (.float .f64 x13)) w11)))
theorem sx194.ok {f sign : Nat} {R : Ending → World → Prop} {w : World} (h : sx194 f sign R w) : Aa Tryz.prog 194 [.float .f64 f, .float .f64 sign] w R :=
 okOf { named := [7, 10] } mix Tryz.func194 (by kernel_rfl) (by kernel_rfl) (by kernel_rfl) h
def sx213 (f : Nat) (R : Ending → World → Prop) (w : World) : Prop :=
 ∃ b1, Ao Tryz.prog (eqS .neq 41 (.tmp 3) (.tmp 4) (.float .f64 f) (.float .f64 f)) (.bool b1) ∧ R (.returned (.bool b1)) w
theorem sx213.ok {f : Nat} {R : Ending → World → Prop} {w : World} (h : sx213 f R w) : Aa Tryz.prog 213 [.float .f64 f] w R :=
 okOf { pureTo := [5] } mix Tryz.func213 (by kernel_rfl) (by kernel_rfl) (by kernel_rfl) h
def sx214 (f : Nat) (sign : Int) (R : Ending → World → Prop) (w : World) : Prop :=
 ifB (sign == 0) (Aa Tryz.prog 195 [.float .f64 f] w (RetR R fun u2 w1 => ∃ x3, u2 = .float .f64 x3 ∧ ∃ b5, Ao Tryz.prog (eqS .gtr 41 (.tmp 13) (.const (.float .f64 9218868437227405311)) (.float .f64 x3) (.float .f64 9218868437227405311)) (.bool b5) ∧ R (.returned (.bool b5)) w1)) (ifB (decide (sign < 0)) (∃ x6, Ao Tryz.prog (Op.unary .neg (.float .f64 f)) (.float .f64 x6) ∧ ∃ b7, Ao Tryz.prog (eqS .gtr 41 (.tmp 13) (.const (.float .f64 9218868437227405311)) (.float .f64 x6) (.float .f64 9218868437227405311)) (.bool b7) ∧ R (.returned (.bool b7)) w) (∃ b8, Ao Tryz.prog (eqS .gtr 41 (.tmp 13) (.const (.float .f64 9218868437227405311)) (.float .f64 f) (.float .f64 9218868437227405311)) (.bool b8) ∧ R (.returned (.bool b8)) w))
theorem sx214.ok {f : Nat} {sign : Int} {R : Ending → World → Prop} {w : World} (h : sx214 f sign R w) : Aa Tryz.prog 214 [.float .f64 f, .int .i64 sign] w R :=
 okOf { pureTo := [12, 14] } mix Tryz.func214 (by kernel_rfl) (by kernel_rfl) (by kernel_rfl) h
def sx217 (sign : Int) (R : Ending → World → Prop) (w : World) : Prop :=
 ifB (decide (sign ≥ 0)) (Aa Tryz.prog 76 [.int .u64 9218868437227405312] w (RetR R fun u2 w1 => ∃ x3, u2 = .float .f64 x3 ∧ R (.returned (.float .f64 x3)) w1)) (Aa Tryz.prog 76 [.int .u64 18442240474082181120] w (RetR R fun u6 w5 => ∃ x7, u6 = .float .f64 x7 ∧ R (.returned (.float .f64 x7)) w5))
theorem sx217.ok {sign : Int} {R : Ending → World → Prop} {w : World} (h : sx217 sign R w) : Aa Tryz.prog 217 [.int .i64 sign] w R :=
 okOf {} mix Tryz.func217 (by kernel_rfl) (by kernel_rfl) (by kernel_rfl) h
def sx216 (x : Nat) (R : Ending → World → Prop) (w : World) : Prop :=
 Aa Tryz.prog 195 [.float .f64 x] w (RetR R fun u2 w1 => ∃ x3, u2 = .float .f64 x3 ∧ ∃ b5, Ao Tryz.prog (eqS .lss 41 (.tmp 5) (.const (.float .f64 4503599627370496)) (.float .f64 x3) (.float .f64 4503599627370496)) (.bool b5) ∧ ifB b5 (SemW Tryz.prog (eqS .mul 41 (.tmp 7) (.const (.float .f64 4841369599423283200)) (.float .f64 x) (.float .f64 4841369599423283200)) (fun u7 w6 => ∃ x8, u7 = .float .f64 x8 ∧ R (.returned (.tuple #[.float .f64 x8, .int .i64 (-52)])) w6) w1) (R (.returned (.tuple #[.float .f64 x, .int .i64 0])) w1))
theorem sx216.ok {x : Nat} {R : Ending → World → Prop} {w : World} (h : sx216 x R w) : Aa Tryz.prog 216 [.float .f64 x] w R :=
 okOf { pureTo := [6], sem := [8] } mix Tryz.func216 (by kernel_rfl) (by kernel_rfl) (by kernel_rfl) h
def sx212 (frac : Nat) (exp : Int) (R : Ending → World → Prop) (w : World) : Prop :=
 ∃ b1, Ao Tryz.prog (eqS .eql 41 (.tmp 9) (.const (.float .f64 0)) (.float .f64 frac) (.float .f64 0)) (.bool b1) ∧ ifB b1 (R (.returned (.float .f64 frac)) w) (Aa Tryz.prog 214 [.float .f64 frac, .int .i64 0] w (RetR R fun u3 w2 => ∃ b4, u3 = .bool b4 ∧ ifB b4 (R (.returned (.float .f64 frac)) w2) (Aa Tryz.prog 213 [.float .f64 frac] w2 (RetR R fun u7 w6 => ∃ b8, u7 = .bool b8 ∧ ifB b8 (R (.returned (.float .f64 frac)) w6) (Aa Tryz.prog 216 [.float .f64 frac] w6 (RetR R fun u11 w10 => ∃ x12 n13, u11 = .tuple #[.float .f64 x12, .int .i64 n13] ∧ ∀ n15 : Int, n15 = IntKind.i64.wrap (exp + n13) → Aa Tryz.prog 120 [.float .f64 x12] w10 (RetR R fun u17 w16 => ∃ n18, u17 = .int .u64 n18 ∧ 0 ≤ (52 : Int) ∧ ∀ n20 : Int, n20 = Int.fdiv n18 (2 ^ (min (52 : Int).toNat (IntKind.bits .u64))) → ∀ n21 : Int, n21 = Go.bits .and .i64 (IntKind.i64.wrap n20) 2047 → ∀ n22 : Int, n22 = IntKind.i64.wrap (n21 - 1023) → ∀ n23 : Int, n23 = IntKind.i64.wrap (n15 + n22) → ifB (decide (n23 < (-1075))) (Aa Tryz.prog 194 [.float .f64 0, .float .f64 x12] w16 (RetR R fun u25 w24 => ∃ x26, u25 = .float .f64 x26 ∧ R (.returned (.float .f64 x26)) w24)) (ifB (decide (n23 > 1023)) (∃ b28, Ao Tryz.prog (eqS .lss 41 (.tmp 43) (.const (.float .f64 0)) (.float .f64 x12) (.float .f64 0)) (.bool b28) ∧ ifB b28 (Aa Tryz.prog 217 [.int .i64 (-1)] w16 (RetR R fun u30 w29 => ∃ x31, u30 = .float .f64 x31 ∧ R (.returned (.float .f64 x31)) w29)) (Aa Tryz.prog 217 [.int .i64 1] w16 (RetR R fun u34 w33 => ∃ x35, u34 = .float .f64 x35 ∧ R (.returned (.float .f64 x35)) w33))) (ifB (decide (n23 < (-1022))) (∀ n37 : Int, n37 = IntKind.i64.wrap (n23 + 53) → ∀ n38 : Int, n38 = Go.bits .andNot .u64 n18 9218868437227405312 → ∀ n39 : Int, n39 = IntKind.i64.wrap (n37 + 1023) → 0 ≤ (52 : Int) ∧ ∀ n40 : Int, n40 = IntKind.u64.wrap ((IntKind.u64.wrap n39) * 2 ^ (min (52 : Int).toNat (IntKind.bits .u64))) → Aa Tryz.prog 76 [.int .u64 (Go.bits .or .u64 n38 n40)] w16 (RetR R fun u42 w41 => ∃ x43, u42 = .float .f64 x43 ∧ SemW Tryz.prog (eqS .mul 41 (.tmp 59) (.tmp 61) (.float .f64 4368491638549381120) (.float .f64 x43)) (fun u46 w45 => ∃ x47, u46 = .float .f64 x47 ∧ R (.returned (.float .f64 x47)) w45) w41)) (∀ n48 : Int, n48 = Go.bits .andNot .u64 n18 9218868437227405312 → ∀ n49 : Int, n49 = IntKind.i64.wrap (n23 + 1023) → 0 ≤ (52 : Int) ∧ ∀ n50 : Int, n50 = IntKind.u64.wrap ((IntKind.u64.wrap n49) * 2 ^ (min (52 : Int).toNat (IntKind.bits .u64))) → Aa Tryz.prog 76 [.int .u64 (Go.bits .or .u64 n48 n50)] w16 (RetR R fun u52 w51 => ∃ x53, u52 = .float .f64 x53 ∧ SemW Tryz.prog (eqS .mul 41 (.tmp 59) (.tmp 61) (.float .f64 4607182418800017408) (.float .f64 x53)) (fun u56 w55 => ∃ x57, u56 = .float .f64 x57 ∧ R (.returned (.float .f64 x57)) w55) w51)))))))))))
theorem sx212.ok {frac : Nat} {exp : Int} {R : Ending → World → Prop} {w : World} (h : sx212 frac exp R w) : Aa Tryz.prog 212 [.float .f64 frac, .int .i64 exp] w R :=
 okOf { pureTo := [10, 44], sem := [62], named := [27, 32, 34, 35, 36, 50, 52, 55, 57] } mix Tryz.func212 (by kernel_rfl) (by kernel_rfl) (by kernel_rfl) h
def sx206 (frac : Nat) (exp : Int) (R : Ending → World → Prop) (w : World) : Prop :=
 Aa Tryz.prog 212 [.float .f64 frac, .int .i64 exp] w (RetR R fun u2 w1 => ∃ x3, u2 = .float .f64 x3 ∧ R (.returned (.float .f64 x3)) w1)
theorem sx206.ok {frac : Nat} {exp : Int} {R : Ending → World → Prop} {w : World} (h : sx206 frac exp R w) : Aa Tryz.prog 206 [.float .f64 frac, .int .i64 exp] w R :=
 okOf {} mix Tryz.func206 (by kernel_rfl) (by kernel_rfl) (by kernel_rfl) h
def sx205 (x : Nat) (R : Ending → World → Prop) (w : World) : Prop :=
 Aa Tryz.prog 209 [.float .f64 x] w (RetR R fun u2 w1 => ∃ x3, u2 = .float .f64 x3 ∧ R (.returned (.float .f64 x3)) w1)
theorem sx205.ok {x : Nat} {R : Ending → World → Prop} {w : World} (h : sx205 x R w) : Aa Tryz.prog 205 [.float .f64 x] w R :=
 okOf {} mix Tryz.func205 (by kernel_rfl) (by kernel_rfl) (by kernel_rfl) h
def sx121 (x : Nat) (R : Ending → World → Prop) (w : World) : Prop :=
 ∃ b1, Ao Tryz.prog (eqS .neq 41 (.tmp 3) (.tmp 4) (.float .f64 x) (.float .f64 x)) (.bool b1) ∧ ifB b1 (Aa Tryz.prog 76 [.int .u64 9221120237041090561] w (RetR R fun u3 w2 => ∃ x4, u3 = .float .f64 x4 ∧ R (.returned (.float .f64 x4)) w2)) (R (.returned (.float .f64 x)) w)
theorem sx121.ok {x : Nat} {R : Ending → World → Prop} {w : World} (h : sx121 x R w) : Aa Tryz.prog 121 [.float .f64 x] w R :=
 okOf { pureTo := [5] } mix Tryz.func121 (by kernel_rfl) (by kernel_rfl) (by kernel_rfl) h
def sx196 (x : Nat) (R : Ending → World → Prop) (w : World) : Prop :=
 Aa Tryz.prog 205 [.float .f64 x] w (RetR R fun u2 w1 => ∃ x3, u2 = .float .f64 x3 ∧ Aa Tryz.prog 121 [.float .f64 x3] w1 (RetR R fun u6 w5 => ∃ x7, u6 = .float .f64 x7 ∧ R (.returned (.float .f64 x7)) w5))
theorem sx196.ok {x : Nat} {R : Ending → World → Prop} {w : World} (h : sx196 x R w) : Aa Tryz.prog 196 [.float .f64 x] w R :=
 okOf {} mix Tryz.func196 (by kernel_rfl) (by kernel_rfl) (by kernel_rfl) h
def sx197 (x : Nat) (n : Int) (R : Ending → World → Prop) (w : World) : Prop :=
 Aa Tryz.prog 206 [.float .f64 x, .int .i64 (if ((if (n : Int) < 5000 then n else 5000) : Int) > (-5000) then (if (n : Int) < 5000 then n else 5000) else (-5000))] w (RetR R fun u2 w1 => ∃ x3, u2 = .float .f64 x3 ∧ Aa Tryz.prog 121 [.float .f64 x3] w1 (RetR R fun u6 w5 => ∃ x7, u6 = .float .f64 x7 ∧ R (.returned (.float .f64 x7)) w5))
theorem sx197.ok {x : Nat} {n : Int} {R : Ending → World → Prop} {w : World} (h : sx197 x n R w) : Aa Tryz.prog 197 [.float .f64 x, .int .i64 n] w R :=
 okOf {} mix Tryz.func197 (by kernel_rfl) (by kernel_rfl) (by kernel_rfl) h
def sx119 (x : Nat) (R : Ending → World → Prop) (w : World) : Prop :=
 ∃ b1, Ao Tryz.prog (eqS .neq 41 (.tmp 4) (.tmp 5) (.float .f64 x) (.float .f64 x)) (.bool b1) ∧ ifB b1 (R (.returned (.int .i64 0)) w) (∃ b2, Ao Tryz.prog (eqS .geq 41 (.tmp 8) (.const (.float .f64 4890909195324358656)) (.float .f64 x) (.float .f64 4890909195324358656)) (.bool b2) ∧ ifB b2 (R (.returned (.int .i64 9223372036854775807)) w) (∃ b3, Ao Tryz.prog (eqS .leq 41 (.tmp 11) (.const (.float .f64 14114281232179134464)) (.float .f64 x) (.float .f64 14114281232179134464)) (.bool b3) ∧ ifB b3 (R (.returned (.int .i64 (-9223372036854775808))) w) (SemW Tryz.prog (convert 41 2 (.float .f64 x)) (fun u5 w4 => ∃ n6, u5 = .int .i64 n6 ∧ R (.returned (.int .i64 n6)) w4) w)))
theorem sx119.ok {x : Nat} {R : Ending → World → Prop} {w : World} (h : sx119 x R w) : Aa Tryz.prog 119 [.float .f64 x] w R :=
 okOf { pureTo := [6, 9, 12], sem := [14] } mix Tryz.func119 (by kernel_rfl) (by kernel_rfl) (by kernel_rfl) h
def sx198 (n : Int) (R : Ending → World → Prop) (w : World) : Prop :=
 SemW Tryz.prog (convert 2 41 (.int .i64 n)) (fun u2 w1 => ∃ x3, u2 = .float .f64 x3 ∧ R (.returned (.float .f64 x3)) w1) w
theorem sx198.ok {n : Int} {R : Ending → World → Prop} {w : World} (h : sx198 n R w) : Aa Tryz.prog 198 [.int .i64 n] w R :=
 okOf { sem := [4] } mix Tryz.func198 (by kernel_rfl) (by kernel_rfl) (by kernel_rfl) h
abbrev FL : Nat := 18446744073709551616
theorem Gc {x : Nat} {w : World} : Aa Tryz.prog 120 [.float .f64 x] w (Rets fun v w' => v = .int .u64 (x : Int) ∧ w' = w) := by
 refine G4 Tryz.func120 (by kernel_rfl) (by kernel_rfl) (by kernel_rfl) (e := Extern.MathFloatBits.float64bits) (by kernel_rfl) ?_
 exact Eb (v := .int .u64 (x : Int)) (fun w => rfl) ⟨_, rfl, rfl, rfl⟩
theorem Dm {n : Int} {w : World} : Aa Tryz.prog 76 [.int .u64 n] w (Rets fun v w' => v = .float .f64 n.toNat ∧ w' = w) := by
 refine G4 Tryz.func76 (by kernel_rfl) (by kernel_rfl) (by kernel_rfl) (e := Extern.MathFloatBits.float64frombits) (by kernel_rfl) ?_
 exact Eb (v := .float .f64 n.toNat) (fun w => rfl) ⟨_, rfl, rfl, rfl⟩
theorem Uy {x : Nat} {w : World} (hx : x < FL) : Aa Tryz.prog 195 [.float .f64 x] w (Rets fun v w' => v = .float .f64 (x % 9223372036854775808) ∧ w' = w) := by
 refine sx195.ok ?_
 unfold sx195
 refine Gc.use fun v w1 ⟨hv, hw⟩ => ?_
 subst hv; subst hw
 refine ⟨_, rfl, fun n hn => ?_⟩
 rw [S3 hx] at hn
 subst hn
 refine Dm.use fun v w2 ⟨hv, hw⟩ => ?_
 subst hv; subst hw
 exact ⟨_, rfl, _, rfl, rfl, rfl⟩
theorem Ix {f s : Nat} {w : World} (hf : f < FL) (hs : s < FL) : Aa Tryz.prog 194 [.float .f64 f, .float .f64 s] w (Rets fun v w' => v = .float .f64 (Ep f s) ∧ w' = w) := by
 refine sx194.ok ?_
 unfold sx194
 refine Gc.use fun v w1 ⟨hv, hw⟩ => ?_
 subst hv; subst hw
 refine ⟨_, rfl, fun n hn => ?_⟩
 refine Gc.use fun v w2 ⟨hv, hw⟩ => ?_
 subst hv; subst hw
 refine ⟨_, rfl, fun m hm => ?_⟩
 subst hn; subst hm
 rw [Xh hf hs]
 refine Dm.use fun v w2 ⟨hv, hw⟩ => ?_
 subst hv; subst hw
 exact ⟨_, rfl, _, rfl, rfl, rfl⟩
theorem Z6 {f : Nat} {w : World} : Aa Tryz.prog 213 [.float .f64 f] w (Rets fun v w' => v = .bool (nanB f) ∧ w' = w) := by
 refine sx213.ok ?_
 unfold sx213
 exact ⟨_, D3, _, rfl, rfl, rfl⟩
theorem Z7 {f : Nat} {w : World} (hf : f < FL) : Aa Tryz.prog 214 [.float .f64 f, .int .i64 0] w (Rets fun v w' => v = .bool (ordB (f % 9223372036854775808) 9218868437227405311 == some .gt) ∧ w' = w) := by
 refine sx214.ok ?_
 unfold sx214
 refine ⟨fun _ => (Uy hf).use fun v w1 ⟨hv, hw⟩ => ?_, fun h => (by simp at h)⟩
 subst hv; subst hw
 exact ⟨_, rfl, _, H0, _, rfl, rfl, rfl⟩
theorem Z8 {s : Int} {w : World} : Aa Tryz.prog 217 [.int .i64 s] w (Rets fun v w' => v = .float .f64 (if s ≥ 0 then 9218868437227405312 else 18442240474082181120) ∧ w' = w) := by
 refine sx217.ok ?_
 unfold sx217
 refine ⟨fun h => Dm.use fun v w1 ⟨hv, hw⟩ => ?_, fun h => Dm.use fun v w1 ⟨hv, hw⟩ => ?_⟩
 ·subst hv; subst hw
  simp only [decide_eq_true_eq] at h
  exact ⟨_, rfl, _, rfl, by rw [if_pos h]; rfl, rfl⟩
 ·subst hv; subst hw
  simp only [decide_eq_false_iff_not] at h
  exact ⟨_, rfl, _, rfl, by rw [if_neg h]; rfl, rfl⟩
theorem Rx {x : Nat} {w : World} (hx : x < FL) (hn : nanB x = false) (hi : infB x = false) : Aa Tryz.prog 216 [.float .f64 x] w (Rets fun v w' => v = .tuple #[.float .f64 (Dy x).1, .int .i64 (Dy x).2] ∧ Grew w w') := by
 refine sx216.ok ?_
 unfold sx216
 refine (Uy hx).use fun v w1 ⟨hv, hw⟩ => ?_
 subst hv; subst hw
 refine ⟨_, rfl, _, Hz, fun h => ?_, fun h => ⟨_, rfl, ?_, Grew.refl _⟩⟩
 ·refine Ee (.inr (.inr (.inl rfl))) fun r w2 hg hr => ⟨r, rfl, _, rfl, ?_, hg⟩
  have e : floatBits .mul .f64 x 4841369599423283200 = some (mulF x 4841369599423283200) := Ac4 hn hi (by decide) (by decide)
  rw [e] at hr
  rcases hr with hr | ⟨hr, -⟩
  ·cases hr
   have : Dy x = (mulF x 4841369599423283200, -52) := by unfold Dy; rw [if_pos h]
   rw [this]
  ·cases hr
 ·have : Dy x = (x, 0) := by unfold Dy; rw [if_neg (by rw [h]; simp)]
  rw [this]
theorem Z9 {x : Nat} (hx : x < FL) : (Dy x).1 < FL := by
 unfold Dy; split
 ·exact Lf _ _
 ·exact hx
theorem Aaa {x : Nat} {e : Int} {w : World} (hx : x < FL) : Aa Tryz.prog 212 [.float .f64 x, .int .i64 e] w (Rets fun v w' => ∃ y, v = .float .f64 y ∧ Al y = Al (Gb x e) ∧ y < FL ∧ Grew w w') := by
 refine sx212.ok ?_
 unfold sx212
 refine ⟨_, Nq, fun h => ⟨_, rfl, x, rfl, by unfold Gb; rw [if_pos h], hx, Grew.refl _⟩, fun h0 => ?_⟩
 refine (Z7 hx).use fun v w2 ⟨hv, hw⟩ => ?_
 subst hv; subst hw
 refine ⟨_, rfl, fun h => ⟨_, rfl, x, rfl, by unfold Gb; rw [if_neg (by rw [h0]; simp), if_pos h], hx, Grew.refl _⟩, fun h1 => ?_⟩
 refine Z6.use fun v w2 ⟨hv, hw⟩ => ?_
 subst hv; subst hw
 refine ⟨_, rfl, fun h => ⟨_, rfl, x, rfl, by unfold Gb; rw [if_neg (by rw [h0]; simp), if_neg (by rw [h1]; simp), if_pos h], hx, Grew.refl _⟩, fun h2 => ?_⟩
 have hi : infB x = false := by
  cases hi : infB x
  ·rfl
  ·rw [Z4 hi] at h1; simp at h1
 refine (Rx hx h2 hi).use fun v w3 ⟨hv, hg3⟩ => ?_
 subst hv
 refine ⟨_, _, rfl, fun n15 h15 => Gc.use fun v w4 ⟨hv, hw⟩ => ?_⟩
 subst hv; subst hw
 refine ⟨_, rfl, by decide, fun n20 h20 n21 h21 n22 h22 n23 h23 => ?_⟩
 have hl := Z9 hx
 have hdef : Gb x e = if n23 < -1075 then Ep 0 (Dy x).1
   else if n23 > 1023 then (if ordB (Dy x).1 0 == some .lt then 18442240474082181120 else 9218868437227405312)
   else if n23 < -1022 then mulF 4368491638549381120 (Go.bits .or .u64 (Go.bits .andNot .u64 ((Dy x).1 : Int) 9218868437227405312) (IntKind.u64.wrap ((IntKind.u64.wrap (IntKind.i64.wrap (IntKind.i64.wrap (n23 + 53) + 1023))) * 2 ^ (min (52 : Int).toNat (IntKind.bits .u64))))).toNat
   else mulF 4607182418800017408 (Go.bits .or .u64 (Go.bits .andNot .u64 ((Dy x).1 : Int) 9218868437227405312) (IntKind.u64.wrap ((IntKind.u64.wrap (IntKind.i64.wrap (n23 + 1023))) * 2 ^ (min (52 : Int).toNat (IntKind.bits .u64))))).toNat := by
  unfold Gb
  rw [if_neg (by rw [h0]; simp), if_neg (by rw [h1]; simp), if_neg (by rw [h2]; simp)]
  simp only [h23, h22, h21, h20, h15]
 rw [hdef]
 clear hdef h23 h22 h21 h20 h15
 refine ⟨fun h => ?_, fun h => ⟨fun h3 => ⟨_, Hz, fun h4 => ?_, fun h4 => ?_⟩, fun h3 => ⟨fun h4 n37 h37 n38 h38 n39 h39 => ⟨by decide, fun n40 h40 => ?_⟩, fun h4 n48 h48 n49 h49 => ⟨by decide, fun n50 h50 => ?_⟩⟩⟩⟩
 all_goals simp only [decide_eq_true_eq, decide_eq_false_iff_not] at *
 ·refine (Ix (by decide) hl).use fun v w5 ⟨hv, hw⟩ => ?_
  subst hv; subst hw
  exact ⟨_, rfl, _, rfl, _, rfl, by rw [if_pos h], Hi hl, hg3⟩
 ·refine Z8.use fun v w5 ⟨hv, hw⟩ => ?_
  subst hv; subst hw
  exact ⟨_, rfl, _, rfl, _, rfl, by rw [if_neg h, if_pos h3, if_pos h4]; rfl, by decide, hg3⟩
 ·refine Z8.use fun v w5 ⟨hv, hw⟩ => ?_
  subst hv; subst hw
  exact ⟨_, rfl, _, rfl, _, rfl, by (show Al 9218868437227405312 = _); rw [if_neg h, if_pos h3, if_neg (by rw [h4]; simp)], by decide, hg3⟩
 ·refine Dm.use fun v w5 ⟨hv, hw⟩ => ?_
  subst hv; subst hw
  refine ⟨_, rfl, Ee (.inr (.inr (.inl rfl))) fun r w6 hg hr => ?_⟩
  obtain ⟨r1, r2⟩ := We hr
  exact ⟨r, rfl, _, rfl, r, rfl, by rw [if_neg h, if_neg h3, if_pos h4, r1, h40, h39, h38, h37], r2, hg3.trans hg⟩
 ·refine Dm.use fun v w5 ⟨hv, hw⟩ => ?_
  subst hv; subst hw
  refine ⟨_, rfl, Ee (.inr (.inr (.inl rfl))) fun r w6 hg hr => ?_⟩
  obtain ⟨r1, r2⟩ := We hr
  exact ⟨r, rfl, _, rfl, r, rfl, by rw [if_neg h, if_neg h3, if_neg h4, r1, h50, h49, h48], r2, hg3.trans hg⟩
theorem Aab {x : Nat} {e : Int} {w : World} (hx : x < FL) : Aa Tryz.prog 206 [.float .f64 x, .int .i64 e] w (Rets fun v w' => ∃ y, v = .float .f64 y ∧ Al y = Al (Gb x e) ∧ y < FL ∧ Grew w w') := by
 refine sx206.ok ?_
 unfold sx206
 refine (Aaa hx).use fun v w1 ⟨y, hv, h⟩ => ?_
 subst hv
 exact ⟨_, rfl, _, rfl, y, rfl, h⟩
theorem Ry {x : Nat} {w : World} (hx : x < FL) : Aa Tryz.prog 209 [.float .f64 x] w (Rets fun v w' => ∃ y, v = .float .f64 y ∧ Al y = Da x ∧ y < FL ∧ Grew w w') := by
 refine G4 Tryz.func209 (by kernel_rfl) (by kernel_rfl) (by kernel_rfl) (e := Extern.MathFloor.toIntegral "math.archFloor" .down) (by kernel_rfl) ?_
 cases hn : nanB x
 ·have hf : Da x = Al (Ieee.double.write ((Ieee.double.read x).integral .down)) := by unfold Da; rw [hn]; rfl
  exact Eb (fun w => Xj hn w) ⟨_, rfl, _, rfl, hf.symm, L5 _, Grew.refl _⟩
 ·have hf : Da x = El := by unfold Da; rw [hn]; rfl
  intro w₀ hw
  obtain ⟨y, n, hr, hy, hl⟩ := Ux (P := Tryz.prog) hn hx w₀
  exact ⟨_, _, { w with drawn := w.drawn + n }, hr, ⟨hw.os, hw.tape, by show w.drawn + n = w₀.drawn + n; rw [hw.drawn], hw.output, hw.size, hw.block⟩, ⟨fun _ h => h, fun _ _ => rfl, Nat.le_refl _⟩, ⟨_, rfl, y, rfl, by rw [hf, E2 hy], hl, ⟨rfl, rfl, rfl, Nat.le_refl _, fun _ _ => rfl⟩⟩⟩
theorem Xk {x : Nat} {w : World} (hx : x < FL) : Aa Tryz.prog 205 [.float .f64 x] w (Rets fun v w' => ∃ y, v = .float .f64 y ∧ Al y = Da x ∧ y < FL ∧ Grew w w') := by
 refine sx205.ok ?_
 unfold sx205
 refine (Ry hx).use fun v w1 ⟨y, hv, h⟩ => ?_
 subst hv
 exact ⟨_, rfl, _, rfl, y, rfl, h⟩
theorem D4 {x : Nat} {w : World} : Aa Tryz.prog 121 [.float .f64 x] w (Rets fun v w' => v = .float .f64 (Al x) ∧ w' = w) := by
 refine sx121.ok ?_
 unfold sx121
 refine ⟨_, D3, fun h => Dm.use fun v w1 ⟨hv, hw⟩ => ?_, fun h => ⟨_, rfl, by rw [Dl h], rfl⟩⟩
 subst hv; subst hw
 exact ⟨_, rfl, _, rfl, by rw [E2 h]; rfl, rfl⟩
theorem Aac {x : Nat} {w : World} (hx : x < FL) : Aa Tryz.prog 196 [.float .f64 x] w (Rets fun v w' => v = .float .f64 (Da x) ∧ Grew w w') := by
 refine sx196.ok ?_
 unfold sx196
 refine (Xk hx).use fun v w1 ⟨y, hv, hc, hl, hg⟩ => ?_
 subst hv
 refine ⟨_, rfl, D4.use fun v w2 ⟨hv, hw⟩ => ?_⟩
 subst hv; subst hw
 exact ⟨_, rfl, _, rfl, by rw [hc], hg⟩
theorem Aad {x : Nat} {n : Int} {w : World} (hx : x < FL) : Aa Tryz.prog 197 [.float .f64 x, .int .i64 n] w (Rets fun v w' => v = .float .f64 (Iw x n) ∧ Grew w w') := by
 refine sx197.ok ?_
 unfold sx197
 refine (Aab hx).use fun v w1 ⟨y, hv, hc, hl, hg⟩ => ?_
 subst hv
 refine ⟨_, rfl, D4.use fun v w2 ⟨hv, hw⟩ => ?_⟩
 subst hv; subst hw
 exact ⟨_, rfl, _, rfl, by rw [hc]; rfl, hg⟩
theorem S4 {x : Nat} {w : World} : Aa Tryz.prog 119 [.float .f64 x] w (Rets fun v w' => v = .int .i64 (By x) ∧ w' = w) := by
 refine sx119.ok ?_
 unfold sx119
 refine ⟨_, D3, fun h => ⟨_, rfl, by unfold By; rw [if_pos h], rfl⟩, fun h0 => ⟨_, Ac3, fun h => ⟨_, rfl, by unfold By c63; rw [if_neg (by rw [h0]; simp), if_pos h], rfl⟩, fun h1 => ⟨_, Ac2, fun h => ⟨_, rfl, by unfold By c63 m63; rw [if_neg (by rw [h0]; simp), if_neg (by rw [h1]; simp), if_pos h], rfl⟩, fun h2 => ?_⟩⟩⟩
 have ht := (Z3 h0 h1 h2).1
 refine Eb (v := .int .i64 (En x)) (fun w => run_convert_float_int w _ _ .f64 .i64 x _ (by kernel_rfl) (by kernel_rfl) ht) ⟨_, rfl, _, rfl, ?_, rfl⟩
 unfold By; rw [if_neg (by rw [h0]; simp), if_neg (by unfold c63; rw [h1]; simp), if_neg (by unfold m63; rw [h2]; simp)]
theorem Ae5 {n : Int} {w : World} : Aa Tryz.prog 198 [.int .i64 n] w (Rets fun v w' => v = .float .f64 (numOf n) ∧ w' = w) := by
 refine sx198.ok ?_
 unfold sx198
 exact Eb (v := .float .f64 (numOf n)) (fun w => run_convert_int_float w _ _ .i64 .f64 n (by kernel_rfl) (by kernel_rfl)) ⟨_, rfl, _, rfl, rfl, rfl⟩
end Go.Proofs.YtcpkneemhfnanaaGreat
