/- What the reference's Check, Nodes, Kind and Deal of plans hand back. Conditions: none. -/
import Derived.Test.YtcpkneemhfnanaaGreatProg
import Derived.Test.YtcpkneemhfnanaaGreatPlan
import Derived.Test.YtcpkneemhfnanaaGreatRefA
import Derived.Test.YtcpkneemhfnanaaGreatRefO
import Derived.Test.YtcpkneemhfnanaaGreatSxWr
namespace Go.Proofs.YtcpkneemhfnanaaGreat
open Go.Sx
set_option maxRecDepth 100000
set_option linter.unusedVariables false
set_option linter.unusedSimpArgs false
def sx79 (n most : Int) (R : Ending → World → Prop) (w : World) : Prop :=
 ifB (decide (n ≥ 1)) (R (.returned (.bool (decide (n ≤ most)))) w) (R (.returned (.bool false)) w)
theorem sx79.ok {n most : Int} {R : Ending → World → Prop} {w : World} (h : sx79 n most R w) : Aa Tryz.prog 79 [.int .i64 n, .int .i64 most] w R :=
 okOf {} mix Tryz.func79 (by kernel_rfl) (by kernel_rfl) (by kernel_rfl) h
def sx40 (p_0 p_1 p_2 : Int) (p_3 : Option Addr) (p_3_n p_3_c : Nat) (p_4 p_5 p_6 p_7 : Int) (R : Ending → World → Prop) (w : World) : Prop :=
 ∀ w1, Grew w w1 → Aa Tryz.prog 79 [.int .i64 p_0, .int .i64 4] w1 (RetR R fun u3 w2 => ∃ b4, u3 = .bool b4 ∧ ifB (!b4) (R (.returned (.int .i64 140)) w2) (Aa Tryz.prog 79 [.int .i64 p_1, .int .i64 4] w2 (RetR R fun u7 w6 => ∃ b8, u7 = .bool b8 ∧ ifB (!b8) (R (.returned (.int .i64 140)) w6) (Aa Tryz.prog 79 [.int .i64 p_2, .int .i64 4] w6 (RetR R fun u11 w10 => ∃ b12, u11 = .bool b12 ∧ ifB (!b12) (R (.returned (.int .i64 140)) w10) (Aa Tryz.prog 80 [.int .i64 p_4] w10 (RetR R fun u15 w14 => ∃ b16, u15 = .bool b16 ∧ ifB (!b16) (R (.returned (.int .i64 140)) w14) (Aa Tryz.prog 79 [.int .i64 p_5, .int .i64 16] w14 (RetR R fun u19 w18 => ∃ b20, u19 = .bool b20 ∧ ifB (!b20) (R (.returned (.int .i64 140)) w18) (Aa Tryz.prog 79 [.int .i64 p_6, .int .i64 4] w18 (RetR R fun u23 w22 => ∃ b24, u23 = .bool b24 ∧ ifB (!b24) (R (.returned (.int .i64 140)) w22) (ifB (decide (p_7 < 8)) (R (.returned (.int .i64 140)) w22) (ifB (decide (p_7 > 64)) (R (.returned (.int .i64 140)) w22) (Aa Tryz.prog 43 [.slice p_3 p_3_n p_3_c] w22 (RetR R fun u27 w26 => ∃ n28, u27 = .int .i64 n28 ∧ R (.returned (.int .i64 n28)) w26)))))))))))))))
theorem sx40.ok {p_0 p_1 p_2 : Int} {p_3 : Option Addr} {p_3_n p_3_c : Nat} {p_4 p_5 p_6 p_7 : Int} {R : Ending → World → Prop} {w : World} (h : sx40 p_0 p_1 p_2 p_3 p_3_n p_3_c p_4 p_5 p_6 p_7 R w) : Aa Tryz.prog 40 [.agg #[.int .i64 p_0, .int .i64 p_1, .int .i64 p_2, .slice p_3 p_3_n p_3_c, .int .i64 p_4, .int .i64 p_5, .int .i64 p_6, .int .i64 p_7]] w R :=
 okOf { locals := [1] } mix Tryz.func40 (by kernel_rfl) (by kernel_rfl) (by kernel_rfl) h
def sx81 (p_0 p_1 p_2 : Int) (p_3 : Option Addr) (p_3_n p_3_c : Nat) (p_4 p_5 p_6 p_7 : Int) (R : Ending → World → Prop) (w : World) : Prop :=
 ∀ w1, Grew w w1 → Aa Tryz.prog 40 [.agg #[.int .i64 p_0, .int .i64 p_1, .int .i64 p_2, .slice p_3 p_3_n p_3_c, .int .i64 p_4, .int .i64 p_5, .int .i64 p_6, .int .i64 p_7]] w1 (RetR R fun u3 w2 => ∃ n4, u3 = .int .i64 n4 ∧ ifB (n4 != 0) (R (.returned (.int .i64 0)) w2) (∀ n6 : Int, n6 = IntKind.i64.wrap ((1 : Int) + p_2) → ∀ n7 : Int, n7 = IntKind.i64.wrap (n6 + p_1) → R (.returned (.int .i64 n7)) w2))
theorem sx81.ok {p_0 p_1 p_2 : Int} {p_3 : Option Addr} {p_3_n p_3_c : Nat} {p_4 p_5 p_6 p_7 : Int} {R : Ending → World → Prop} {w : World} (h : sx81 p_0 p_1 p_2 p_3 p_3_n p_3_c p_4 p_5 p_6 p_7 R w) : Aa Tryz.prog 81 [.agg #[.int .i64 p_0, .int .i64 p_1, .int .i64 p_2, .slice p_3 p_3_n p_3_c, .int .i64 p_4, .int .i64 p_5, .int .i64 p_6, .int .i64 p_7]] w R :=
 okOf { locals := [1], named := [8, 11] } mix Tryz.func81 (by kernel_rfl) (by kernel_rfl) (by kernel_rfl) h
def sx41 (p_0 p_1 p_2 : Int) (p_3 : Option Addr) (p_3_n p_3_c : Nat) (p_4 p_5 p_6 p_7 node : Int) (R : Ending → World → Prop) (w : World) : Prop :=
 ∀ w1, Grew w w1 → ifB (decide (node < 0)) (R (.returned (.int .i64 0)) w1) (Aa Tryz.prog 81 [.agg #[.int .i64 p_0, .int .i64 p_1, .int .i64 p_2, .slice p_3 p_3_n p_3_c, .int .i64 p_4, .int .i64 p_5, .int .i64 p_6, .int .i64 p_7]] w1 (RetR R fun u3 w2 => ∃ n4, u3 = .int .i64 n4 ∧ ifB (decide (node ≥ n4)) (R (.returned (.int .i64 0)) w2) (ifB (node == 0) (R (.returned (.int .i64 1)) w2) (ifB (decide (node ≤ p_2)) (R (.returned (.int .i64 2)) w2) (R (.returned (.int .i64 3)) w2)))))
theorem sx41.ok {p_0 p_1 p_2 : Int} {p_3 : Option Addr} {p_3_n p_3_c : Nat} {p_4 p_5 p_6 p_7 node : Int} {R : Ending → World → Prop} {w : World} (h : sx41 p_0 p_1 p_2 p_3 p_3_n p_3_c p_4 p_5 p_6 p_7 node R w) : Aa Tryz.prog 41 [.agg #[.int .i64 p_0, .int .i64 p_1, .int .i64 p_2, .slice p_3 p_3_n p_3_c, .int .i64 p_4, .int .i64 p_5, .int .i64 p_6, .int .i64 p_7], .int .i64 node] w R :=
 okOf { locals := [2] } mix Tryz.func41 (by kernel_rfl) (by kernel_rfl) (by kernel_rfl) h
def sx100 (p_0 p_1 p_2 : Int) (p_3 : Option Addr) (p_3_n p_3_c : Nat) (p_4 p_5 p_6 p_7 : Int) (table : Option Addr) (table_n table_c : Nat) (R : Ending → World → Prop) (w : World) : Prop :=
 ∀ w1, Grew w w1 → ∀ b2 w3, Ag w1 w3 b2 (.cells #[] 46) → ∃ (I4 : Option Addr → Nat → Nat → Int → World → Prop) (m4 : Option Addr → Nat → Nat → Int → World → Nat), I4 (some ⟨b2, 0, none⟩) 0 0 0 w3 ∧ ∀ a5 l5 c5 n6 w7, I4 a5 l5 c5 n6 w7 → Aa Tryz.prog 40 [.agg #[.int .i64 p_0, .int .i64 p_1, .int .i64 p_2, .slice p_3 p_3_n p_3_c, .int .i64 p_4, .int .i64 p_5, .int .i64 p_6, .int .i64 p_7]] w7 (RetR R fun u9 w8 => ∃ n10, u9 = .int .i64 n10 ∧ ifB (n10 == 0) (ifB (decide (n6 < p_1)) (∀ b12 w13, Ag w8 w13 b12 (.cells #[] 83) → ∃ (I14 : Option Addr → Nat → Nat → Int → World → Prop) (m14 : Option Addr → Nat → Nat → Int → World → Nat), I14 (some ⟨b12, 0, none⟩) 0 0 0 w13 ∧ ∀ a15 l15 c15 n16 w17, I14 a15 l15 c15 n16 w17 → ifB (decide (n16 < ((table_n : Nat) : Int))) (∀ w18, Grew w17 w18 → Ab table (fun d19 => (0 ≤ n16 ∧ n16 < (table_n : Nat)) ∧ ∃ n20, w18.cell? (Addr.add d19 (n16.toNat * 3)) = some (.int .u64 n20) ∧ (((IntKind.u64.wrap p_1) = 0 → R (.panicked (Bq Tryz.prog)) w18) ∧ ((IntKind.u64.wrap p_1) ≠ 0 → ∀ n21 : Int, n21 = Int.tmod n20 (IntKind.u64.wrap p_1) → ifB (n21 == IntKind.u64.wrap n6) (Ab table (fun d22 => (0 ≤ n16 ∧ n16 < (table_n : Nat)) ∧ ∃ n23 b24 n25, Ae w18 (Addr.add d22 (n16.toNat * 3)) 0 [.int .u64 n23, .bool b24, .int .u64 n25] ∧ ∀ b26 w27, Ag w18 w27 b26 (.cells #[.int .u64 n23, .bool b24, .int .u64 n25] 83) → SemW Tryz.prog (Builtin.append_ #[46, 46] 46 #[.slice a15 l15 c15, .slice (some ⟨b26, 0, none⟩) 1 1]) (fun u29 w28 => ∃ a30 l30 c30, u29 = .slice a30 l30 c30 ∧ (I14 a30 l30 c30 (IntKind.i64.wrap (n16 + 1)) w28 ∧ m14 a30 l30 c30 (IntKind.i64.wrap (n16 + 1)) w28 < m14 a15 l15 c15 n16 w17)) w27)) ((I14 a15 l15 c15 (IntKind.i64.wrap (n16 + 1)) w18 ∧ m14 a15 l15 c15 (IntKind.i64.wrap (n16 + 1)) w18 < m14 a15 l15 c15 n16 w17)))))) (∀ b31 w32, Ag w17 w32 b31 (.cells #[.slice a15 l15 c15] 46) → SemW Tryz.prog (Builtin.append_ #[142, 142] 142 #[.slice a5 l5 c5, .slice (some ⟨b31, 0, none⟩) 1 1]) (fun u34 w33 => ∃ a35 l35 c35, u34 = .slice a35 l35 c35 ∧ (I4 a35 l35 c35 (IntKind.i64.wrap (n6 + 1)) w33 ∧ m4 a35 l35 c35 (IntKind.i64.wrap (n6 + 1)) w33 < m4 a5 l5 c5 n6 w7)) w32)) (R (.returned (.slice a5 l5 c5)) w8)) (R (.returned (.slice a5 l5 c5)) w8))
theorem sx100.ok {p_0 p_1 p_2 : Int} {p_3 : Option Addr} {p_3_n p_3_c : Nat} {p_4 p_5 p_6 p_7 : Int} {table : Option Addr} {table_n table_c : Nat} {R : Ending → World → Prop} {w : World} (h : sx100 p_0 p_1 p_2 p_3 p_3_n p_3_c p_4 p_5 p_6 p_7 table table_n table_c R w) : Aa Tryz.prog 100 [.agg #[.int .i64 p_0, .int .i64 p_1, .int .i64 p_2, .slice p_3 p_3_n p_3_c, .int .i64 p_4, .int .i64 p_5, .int .i64 p_6, .int .i64 p_7], .slice table table_n table_c] w R :=
 okOf { locals := [2], sem := [46, 50], named := [36], draws := [(9, { order := (ol [0,1,2,3,4,5,6,7,9,10,8,11] .nil), bars := [8] })], loops := [(7, { slots := [(7, .slice), (8, .int .i64)], cells := [] }), (1003, { slots := [(5, .slice), (6, .int .i64)], cells := [] })] } mix Tryz.func100 (by kernel_rfl) (by kernel_rfl) (by kernel_rfl) h
theorem Gn {n m : Int} {w : World} : Aa Tryz.prog 79 [.int .i64 n, .int .i64 m] w (Rets fun v w' => v = .bool (decide (1 ≤ n ∧ n ≤ m)) ∧ w' = w) := by
 refine sx79.ok ?_
 unfold sx79
 refine ⟨fun h => ⟨_, rfl, ?_, rfl⟩, fun h => ⟨_, rfl, ?_, rfl⟩⟩
 ·simp only [decide_eq_true_eq] at h
  simp [show 1 ≤ n by omega]
 ·simp only [decide_eq_false_iff_not] at h
  simp [show ¬ 1 ≤ n by omega]
theorem Y6 {p : Bd} : Ig p = true ↔ ((1 ≤ p.parts ∧ p.parts ≤ 4) ∧ (1 ≤ p.stores ∧ p.stores ≤ 4) ∧ (1 ≤ p.workers ∧ p.workers ≤ 4) ∧ (1 ≤ p.batch ∧ p.batch ≤ 16) ∧ (1 ≤ p.window ∧ p.window ≤ 4) ∧ (8 ≤ p.giveUp ∧ p.giveUp ≤ 64) ∧ Cz p.agg = true) := by
 unfold Ig
 rw [Bool.and_eq_true, decide_eq_true_iff]
 exact ⟨fun ⟨⟨a, b, c, d, e, f⟩, g⟩ => ⟨a, b, c, d, e, f, g⟩, fun ⟨a, b, c, d, e, f, g⟩ => ⟨⟨a, b, c, d, e, f⟩, g⟩⟩
theorem Kw {x : Plan} {w : World} (hx : x.At w) : Aa Tryz.prog 40 [x.val] w (Rets fun v w' => v = .int .i64 (Gj x.c) ∧ Grew w w') := by
 refine sx40.ok ?_
 unfold sx40
 intro w1 hg1
 have bad : ∀ {w' : World}, Grew w w' → ¬ Ig x.c = true → Rets (fun v w' => v = .int .i64 (Gj x.c) ∧ Grew w w') (.returned (.int .i64 140)) w' := fun hg h => ⟨_, rfl, by unfold Gj; rw [if_neg h], hg⟩
 have nums := Y6 (p := x.c)
 refine Gn.use fun v w2 ⟨hv, hw⟩ => ?_
 subst hv; subst hw
 refine ⟨_, rfl, fun h => bad hg1 fun hn => ?_, fun h1 => Gn.use fun v w2 ⟨hv, hw⟩ => ?_⟩
 ·have := nums.1 hn; simp [this] at h
 subst hv; subst hw
 refine ⟨_, rfl, fun h => bad hg1 fun hn => ?_, fun h2 => Gn.use fun v w2 ⟨hv, hw⟩ => ?_⟩
 ·have := nums.1 hn; simp [this] at h
 subst hv; subst hw
 refine ⟨_, rfl, fun h => bad hg1 fun hn => ?_, fun h3 => Mn.use fun v w2 ⟨hv, hw⟩ => ?_⟩
 ·have := nums.1 hn; simp [this] at h
 subst hv; subst hw
 refine ⟨_, rfl, fun h => bad hg1 fun hn => ?_, fun h4 => Gn.use fun v w2 ⟨hv, hw⟩ => ?_⟩
 ·have := nums.1 hn; simp [this] at h
 subst hv; subst hw
 refine ⟨_, rfl, fun h => bad hg1 fun hn => ?_, fun h5 => Gn.use fun v w2 ⟨hv, hw⟩ => ?_⟩
 ·have := nums.1 hn; simp [this] at h
 subst hv; subst hw
 refine ⟨_, rfl, fun h => bad hg1 fun hn => ?_, fun h6 => ⟨fun h => bad hg1 fun hn => ?_, fun h7 => ⟨fun h => bad hg1 fun hn => ?_, fun h8 => (J4 (hx.grew hg1)).use fun v w26 ⟨hv, hg26⟩ => ?_⟩⟩⟩
 ·have := nums.1 hn; simp [this] at h
 ·have := nums.1 hn; simp only [decide_eq_true_eq] at h; omega
 ·have := nums.1 hn; simp only [decide_eq_true_eq] at h; omega
 subst hv
 simp only [Bool.not_eq_false', decide_eq_true_eq, decide_eq_false_iff_not] at h1 h2 h3 h4 h5 h6 h7 h8
 have hn : Ig x.c = true := nums.2 ⟨h1, h2, h3, h5, h6, by omega, h4⟩
 exact ⟨_, rfl, _, rfl, by unfold Gj; rw [if_pos hn], hg1.trans hg26⟩
theorem Vp {x : Plan} {w : World} (hx : x.At w) : Aa Tryz.prog 81 [x.val] w (Rets fun v w' => v = .int .i64 (E7 x.c) ∧ Grew w w') := by
 refine sx81.ok ?_
 unfold sx81
 intro w1 hg1
 refine (Kw (hx.grew hg1)).use fun v w2 ⟨hv, hg2⟩ => ?_
 subst hv
 refine ⟨_, rfl, fun h => ?_, fun h n6 h6 n7 h7 => ?_⟩
 ·have hn : ¬ C0 x.c = true := fun hg => by rw [Ci.2 hg] at h; simp at h
  exact ⟨_, rfl, by unfold E7; rw [if_neg hn], hg1.trans hg2⟩
 ·have hgd : C0 x.c = true := Ci.1 (by simpa using h)
  have hG := C1.1 hgd
  have := hG.workers; have := hG.stores
  refine ⟨_, rfl, ?_, hg1.trans hg2⟩
  unfold E7
  rw [if_pos hgd, h7, h6, IntKind.wrap_i64, IntKind.wrap_i64]
  congr 1; omega
theorem Rc {x : Plan} {n : Int} {w : World} (hx : x.At w) : Aa Tryz.prog 41 [x.val, .int .i64 n] w (Rets fun v w' => v = .int .i64 (Ax x.c n) ∧ Grew w w') := by
 refine sx41.ok ?_
 unfold sx41
 intro w1 hg1
 have fin : ∀ {y : World} (k : Int), Ax x.c n = k → Grew w y → Rets (fun v w' => v = .int .i64 (Ax x.c n) ∧ Grew w w') (.returned (.int .i64 k)) y := fun k h hg => ⟨_, rfl, by rw [h], hg⟩
 refine ⟨fun h => ?_, fun h => (Vp (hx.grew hg1)).use fun v w2 ⟨hv, hg2⟩ => ?_⟩
 ·simp only [decide_eq_true_eq] at h
  exact fin _ (by unfold Ax; rw [if_pos (.inl h)]) hg1
 ·subst hv
  simp only [decide_eq_false_iff_not] at h
  have hg2 := hg1.trans hg2
  refine ⟨_, rfl, fun h1 => ?_, fun h1 => ⟨fun h2 => ?_, fun h2 => ⟨fun h3 => ?_, fun h3 => ?_⟩⟩⟩
  ·simp only [ge_iff_le, decide_eq_true_eq] at h1
   exact fin _ (by unfold Ax; rw [if_pos (.inr h1)]) hg2
  all_goals simp only [ge_iff_le, decide_eq_false_iff_not, decide_eq_true_eq, beq_iff_eq, beq_eq_false_iff_ne, ne_eq] at h1 h2
  ·exact fin _ (by unfold Ax; rw [if_neg (by omega), if_pos h2]) hg2
  ·simp only [decide_eq_true_eq] at h3
   exact fin _ (by unfold Ax; rw [if_neg (by omega), if_neg h2, if_pos (by omega)]) hg2
  ·simp only [decide_eq_false_iff_not] at h3
   exact fin _ (by unfold Ax; rw [if_neg (by omega), if_neg h2, if_neg (by omega)]) hg2
theorem Afi : B4 Tryz.prog 142 46 Enc.slice.sz 24 := B4.mk' (z := .slice none 0 0) (by kernel_rfl) (by kernel_rfl) (by kernel_rfl)
theorem W7 : B4 Tryz.prog 46 83 Enc.pair.sz 24 := B4.mk' (z := .agg #[.int .u64 0, .bool false, .int .u64 0]) (by kernel_rfl) (by kernel_rfl) (by kernel_rfl)
def Aex (w : World) (ls : List (List Am)) (u : Value) (w' : World) : Prop := ∃ a n c hs, u = .slice a n c ∧ Own w' w.heap.size 46 Enc.slice a n c hs ∧ Dq 83 w' w.heap.size hs ls ∧ Grew w w'
theorem Jk {x : Plan} {a : Option Addr} {n c : Nat} {l : List Am} {w : World} (hx : x.At w) (hG : Nb x.c) (hr : Reads w Enc.pair (a, n, c) l) (hf : ∀ y ∈ l, y.Fits) (hl : l.length ≤ 2097152) :
  Aa Tryz.prog 100 [x.val, .slice a n c] w (Rets (Aex w (Gx x.c.stores l))) := by
 refine sx100.ok ?_
 unfold sx100
 have hn : n = l.length := hr.2.1
 subst hn
 have hgd : C0 x.c = true := C1.2 hG
 have hS := hG.stores
 intro w1 hg1 b2 w3 hal3
 have hg3 := hg1.trans hal3.grew
 have ho3 : Own w3 w.heap.size 46 Enc.slice (some ⟨b2, 0, none⟩) 0 0 [] := Own.alloc (l := []) hal3 hg1.size rfl (by simp [maxLen])
 refine ⟨fun a n c i w' => ∃ (k : Nat) (hs : List Sl3), i = k ∧ k ≤ x.c.stores.toNat ∧ Own w' w.heap.size 46 Enc.slice a n c hs ∧ Dq 83 w' w.heap.size hs ((Gx x.c.stores l).take k) ∧ Grew w w', fun _ _ _ i _ => x.c.stores.toNat - i.toNat, ⟨0, [], rfl, Nat.zero_le _, ho3, ⟨by simp, fun i h t h1 _ => by simp at h1, fun i j h k _ h1 _ => by simp at h1⟩, hg3⟩, ?_⟩
 rintro a5 l5 c5 n6 w7 ⟨k, hs, rfl, hk, ho7, hD7, hg7⟩
 refine (Kw (hx.grew hg7)).use fun v w8 ⟨hv, hg8⟩ => ?_
 subst hv
 rw [Ci.2 hgd]
 have hg8' := hg7.trans hg8
 have hsl : hs.length = k := by rw [hD7.len, List.length_take, E8]; omega
 refine ⟨_, rfl, fun _ => ⟨fun hlt => ?_, fun hge => ?_⟩, fun h => (by simp at h)⟩
 ·simp only [decide_eq_true_eq] at hlt
  have hks : k < x.c.stores.toNat := by omega
  intro b12 w13 hal13
  have ho13 : Own w13 w8.heap.size 83 Enc.pair (some ⟨b12, 0, none⟩) 0 0 [] := Own.alloc (l := []) hal13 (Nat.le_refl _) rfl (by simp [maxLen])
  refine ⟨fun a n c i w' => ∃ j : Nat, i = j ∧ j ≤ l.length ∧ Own w' w8.heap.size 83 Enc.pair a n c (Nc x.c.stores (l.take j) k) ∧ Grew w8 w', fun _ _ _ i _ => l.length - i.toNat, ⟨0, rfl, Nat.zero_le _, ho13, hal13.grew⟩, ?_⟩
  rintro a15 l15 c15 n16 w17 ⟨j, rfl, hj, ho17, hg17⟩
  refine ⟨fun hltj => ?_, fun hgej => ?_⟩
  ·simp only [decide_eq_true_eq] at hltj
   intro w18 hg18
   have hgw := (hg8'.trans hg17).trans hg18
   have hw : IntKind.i64.wrap ((j : Int) + 1) = ((j + 1 : Nat) : Int) := by rw [IntKind.wrap_i64]; omega
   obtain ⟨d, y, hd, hy, hyc⟩ := (hr.grew hgw).at0 (k := j) (by omega)
   rw [hd]
   have hyf := hf y (List.mem_of_getElem? hy)
   obtain ⟨e1, e2, e3, e4⟩ := Sa hyf.1 hS
   have hck := Ai hyc 0 _ rfl
   have hck' : w18.cell? (Addr.add d (((j : Nat) : Int).toNat * 3)) = some (.int .u64 y.key) := by simpa [Enc.pair, Addr.add_zero'] using hck
   rw [Ab]
   refine ⟨⟨by omega, by omega⟩, _, hck', fun h => (by rw [e1] at h; omega), fun _ n21 h21 => ?_⟩
   rw [e1, e2] at h21
   have hwk : IntKind.u64.wrap (k : Int) = (k : Int) := by rw [IntKind.wrap_u64]; omega
   rw [hwk, hw, h21]
   have hsn := Pg x.c.stores (l.take j) y k
   rw [← Ak hy] at hsn
   refine ⟨fun he => ?_, fun hne => ?_⟩
   ·simp only [beq_iff_eq] at he
    rw [if_pos he] at hsn
    rw [Ab]
    refine ⟨⟨by omega, by omega⟩, _, _, _, hyc, fun b26 w27 hal27 => ?_⟩
    have hlen := Mg x.c.stores (l.take j) k
    rw [List.length_take] at hlen
    refine Bc (l2 := [y]) W7 (ho17.grew hg18) hal27 rfl rfl (hg17.trans hg18).size (by simp only [maxLen, List.length_singleton]; omega) (by simp only [List.length_singleton]; omega) ?_
    rintro v w28 ⟨a30, l30, c30, rfl, ho28, hu28, hb28⟩
    refine ⟨_, _, _, rfl, ⟨j + 1, rfl, by omega, by rw [hsn]; exact ho28, (hg17.trans hg18).then_own hu28 fun b hb => (ho17.blk hb).1⟩, by show l.length - (((j + 1 : Nat) : Int)).toNat < l.length - ((j : Int)).toNat; omega⟩
   ·simp only [beq_eq_false_iff_ne, ne_eq] at hne
    rw [if_neg hne] at hsn
    exact ⟨⟨j + 1, rfl, by omega, by rw [hsn]; exact ho17.grew hg18, hg17.trans hg18⟩, by show l.length - (((j + 1 : Nat) : Int)).toNat < l.length - ((j : Int)).toNat; omega⟩
  ·simp only [decide_eq_false_iff_not] at hgej
   have hjl : j = l.length := by omega
   subst hjl
   rw [List.take_length] at ho17
   intro b31 w32 hal32
   have hgx := hg8'.trans hg17
   refine Bc (l2 := [(a15, l15, c15)]) Afi ((ho7.grew hg8).grew hg17) hal32 rfl rfl hgx.size (by simp only [maxLen, List.length_singleton]; omega) (by simp only [List.length_singleton]; omega) ?_
   rintro v w33 ⟨a35, l35, c35, rfl, ho33, hu33, hb33⟩
   have hw : IntKind.i64.wrap ((k : Int) + 1) = ((k + 1 : Nat) : Int) := by rw [IntKind.wrap_i64]; omega
   rw [hw]
   have hu33' := hu33
   have ho17' := (ho17.grew hal32.grew)
   have hoff : ∀ {B : Nat} {e : TypeId} {α : Type} {E : Enc α} {a : Option Addr} {n c : Nat} {l : List α}, Own w17 B 83 E a n c l → ∀ b, Blk a b → ¬ Blk a5 b := fun h b hb => own_ne h ((ho7.grew hg8).grew hg17) (by decide) b hb
   refine ⟨_, _, _, rfl, ⟨k + 1, hs ++ [(a15, l15, c15)], rfl, by omega, ho33, ?_, hgx.then_own hu33' fun b hb => (ho7.blk hb).1⟩, by show x.c.stores.toNat - (((k + 1 : Nat) : Int)).toNat < x.c.stores.toNat - ((k : Int)).toNat; omega⟩
   rw [Ak (Ho hks)]
   have hD17 := ((hD7.grew hg8).grew hg17).upd hu33' fun b hb => ((hD7.grew hg8).grew hg17).own_ne ((ho7.grew hg8).grew hg17) (by decide) b hb
   have ho33t := ho17.upd hu33' fun b hb => own_ne ho17 ((ho7.grew hg8).grew hg17) (by decide) b hb
   refine ⟨by rw [List.length_append, List.length_append, hD17.len]; rfl, fun i h t h1 h2 => ?_, fun i j h g hne h1 h2 b hb hb2 => ?_⟩
   ·have hdl : ((Gx x.c.stores l).take k).length = k := by rw [List.length_take, E8]; omega
    rcases Nat.lt_or_ge i k with hik | hik
    ·rw [List.getElem?_append_left (by omega)] at h1 h2
     exact hD17.own i h t h1 h2
    ·rw [List.getElem?_append_right (by omega)] at h1 h2
     have e0 : i - k = 0 := by
      have := (List.getElem?_eq_some_iff.1 h1).1
      simp at this; omega
     rw [hsl, e0] at h1
     rw [hdl, e0] at h2
     cases h1; cases h2
     exact ho33t.base hg8'.size
   ·have low : ∀ (i : Nat) (h : Sl3), i < k → (hs ++ [(a15, l15, c15)])[i]? = some h → ∀ b, Blk h.1 b → b < w8.heap.size := fun i h hi hh b hb => by
     rw [List.getElem?_append_left (by omega)] at hh
     have := hD7.feet ⟨h, List.mem_of_getElem? hh, hb⟩
     have := hg8.size; omega
    have top : ∀ (i : Nat) (h : Sl3), ¬ i < k → (hs ++ [(a15, l15, c15)])[i]? = some h → i = k ∧ ∀ b, Blk h.1 b → w8.heap.size ≤ b := fun i h hi hh => by
     rw [List.getElem?_append_right (by omega)] at hh
     have hz := (List.getElem?_eq_some_iff.1 hh).1
     simp at hz
     have e0 : i - hs.length = 0 := by omega
     rw [e0] at hh
     cases hh
     exact ⟨by omega, fun b hb => (ho17.blk hb).1⟩
    by_cases hik : i < k
    ·by_cases hjk : j < k
     ·rw [List.getElem?_append_left (by omega)] at h1 h2
      exact hD17.apart i j h g hne h1 h2 b hb hb2
     ·have := low i h hik h1 b hb; have := (top j g hjk h2).2 b hb2; omega
    ·by_cases hjk : j < k
     ·have := low j g hjk h2 b hb2; have := (top i h hik h1).2 b hb; omega
     ·have := (top i h hik h1).1; have := (top j g hjk h2).1; omega
 ·simp only [decide_eq_false_iff_not] at hge
  have hkk : k = x.c.stores.toNat := by omega
  subst hkk
  rw [List.take_of_length_le (by rw [E8]; omega)] at hD7
  exact ⟨_, rfl, _, _, _, _, rfl, ho7.grew hg8, hD7.grew hg8, hg8'⟩
end Go.Proofs.YtcpkneemhfnanaaGreat
