/- What laws over scripts compare. Conditions: none. -/
import Derived.Test.YtbmmaibbiahkkaaGreatDoorProg
import Derived.Test.YtbmmaibbiahkkaaGreatDoorScrW
import Derived.Test.YtbmmaibbiahkkaaGreatDoorScrQ
import Derived.Test.YtbmmaibbiahkkaaGreatDoorSxSh
import Derived.Test.YtbmmaibbiahkkaaGreatDoorSxSi
namespace Go.Proofs.YtbmmaibbiahkkaaGreatDoor
open Go.Sx
set_option maxRecDepth 100000
set_option linter.unusedVariables false
set_option linter.unusedSimpArgs false
def sx28 (a b : Nat) (R : Ending → World → Prop) (w : World) : Prop :=
 Aa Tryz.prog 48 [.float .f64 a] w (RetR R fun u2 w1 => ∃ n3, u2 = .int .u64 n3 ∧ Aa Tryz.prog 48 [.float .f64 b] w1 (RetR R fun u6 w5 => ∃ n7, u6 = .int .u64 n7 ∧ R (.returned (.bool (n3 == n7))) w5))
theorem sx28.ok {a b : Nat} {R : Ending → World → Prop} {w : World} (h : sx28 a b R w) : Aa Tryz.prog 28 [.float .f64 a, .float .f64 b] w R :=
 okOf {} mix Tryz.func28 (by kernel_rfl) (by kernel_rfl) (by kernel_rfl) h
def sx13 (d_0 d_1 d_2 : Int) (d_3 : Option Addr) (d_3_n d_3_c : Nat) (d_4 d_5 d_6 d_7 i_0 i_1 i_2 : Int) (i_3 : Option Addr) (i_3_n i_3_c : Nat) (i_4 i_5 i_6 i_7 : Int) (R : Ending → World → Prop) (w : World) : Prop :=
 ∀ w1, Grew w w1 → ∀ w2, Grew w1 w2 → ifB (d_0 != i_0) (R (.returned (.bool false)) w2) (ifB (d_1 != i_1) (R (.returned (.bool false)) w2) (ifB (d_2 != i_2) (R (.returned (.bool false)) w2) (ifB (d_4 != i_4) (R (.returned (.bool false)) w2) (ifB (d_5 != i_5) (R (.returned (.bool false)) w2) (ifB (d_6 != i_6) (R (.returned (.bool false)) w2) (ifB (d_7 != i_7) (R (.returned (.bool false)) w2) (ifB (((d_3_n : Nat) : Int) != ((i_3_n : Nat) : Int)) (R (.returned (.bool false)) w2) (∃ (I3 : Int → World → Prop) (m3 : Int → World → Nat), I3 0 w2 ∧ ∀ n4 w5, I3 n4 w5 → ifB (decide (n4 < ((d_3_n : Nat) : Int))) (∀ w6, Grew w5 w6 → Ac d_3 (fun d7 => (0 ≤ n4 ∧ n4 < (d_3_n : Nat)) ∧ ∃ n8, w6.cell? (Addr.add d7 (n4.toNat * 3)) = some (.int .i64 n8) ∧ Ac i_3 (fun d9 => (0 ≤ n4 ∧ n4 < (i_3_n : Nat)) ∧ ∃ n10, w6.cell? (Addr.add d9 (n4.toNat * 3)) = some (.int .i64 n10) ∧ ifB (n8 != n10) (R (.returned (.bool false)) w6) (Ac d_3 (fun d11 => (0 ≤ n4 ∧ n4 < (d_3_n : Nat)) ∧ ∃ n12, w6.cell? (Addr.add (Addr.add d11 (n4.toNat * 3)) 1) = some (.int .i64 n12) ∧ Ac i_3 (fun d13 => (0 ≤ n4 ∧ n4 < (i_3_n : Nat)) ∧ ∃ n14, w6.cell? (Addr.add (Addr.add d13 (n4.toNat * 3)) 1) = some (.int .i64 n14) ∧ ifB (n12 != n14) (R (.returned (.bool false)) w6) (Ac d_3 (fun d15 => (0 ≤ n4 ∧ n4 < (d_3_n : Nat)) ∧ ∃ x16, w6.cell? (Addr.add (Addr.add d15 (n4.toNat * 3)) 2) = some (.float .f64 x16) ∧ Ac i_3 (fun d17 => (0 ≤ n4 ∧ n4 < (i_3_n : Nat)) ∧ ∃ x18, w6.cell? (Addr.add (Addr.add d17 (n4.toNat * 3)) 2) = some (.float .f64 x18) ∧ Aa Tryz.prog 28 [.float .f64 x16, .float .f64 x18] w6 (RetR R fun u20 w19 => ∃ b21, u20 = .bool b21 ∧ Bb w6 w19 [(Addr.add (Addr.add d17 (n4.toNat * 3)) 2), (Addr.add (Addr.add d15 (n4.toNat * 3)) 2), (Addr.add (Addr.add d13 (n4.toNat * 3)) 1), (Addr.add (Addr.add d11 (n4.toNat * 3)) 1), (Addr.add d9 (n4.toNat * 3)), (Addr.add d7 (n4.toNat * 3))] ∧ ifB (!b21) (R (.returned (.bool false)) w19) ((I3 (IntKind.i64.wrap (n4 + 1)) w19 ∧ m3 (IntKind.i64.wrap (n4 + 1)) w19 < m3 n4 w5)))))))))))) (R (.returned (.bool true)) w5)))))))))
theorem sx13.ok {d_0 d_1 d_2 : Int} {d_3 : Option Addr} {d_3_n d_3_c : Nat} {d_4 d_5 d_6 d_7 i_0 i_1 i_2 : Int} {i_3 : Option Addr} {i_3_n i_3_c : Nat} {i_4 i_5 i_6 i_7 : Int} {R : Ending → World → Prop} {w : World} (h : sx13 d_0 d_1 d_2 d_3 d_3_n d_3_c d_4 d_5 d_6 d_7 i_0 i_1 i_2 i_3 i_3_n i_3_c i_4 i_5 i_6 i_7 R w) : Aa Tryz.prog 13 [.agg #[.int .i64 d_0, .int .i64 d_1, .int .i64 d_2, .slice d_3 d_3_n d_3_c, .int .i64 d_4, .int .i64 d_5, .int .i64 d_6, .int .i64 d_7], .agg #[.int .i64 i_0, .int .i64 i_1, .int .i64 i_2, .slice i_3 i_3_n i_3_c, .int .i64 i_4, .int .i64 i_5, .int .i64 i_6, .int .i64 i_7]] w R :=
 okOf { locals := [2, 3], draws := [(6, { order := (ol [0,1,2,3,4,5,6,7,8,9,10,11,12,13,14,15,16,17,18,19,20,21,22,23,24,25,26,27,28,29,30,31,32,33,34,35,36,37,38,39,40,41,42,43] .nil), bars := [] })], loops := [(4, { slots := [(5, .int .i64)], cells := [] })] } mix Tryz.func13 (by kernel_rfl) (by kernel_rfl) (by kernel_rfl) h
def sx14 (d : Option Addr) (d_n d_c : Nat) (i : Option Addr) (i_n i_c : Nat) (R : Ending → World → Prop) (w : World) : Prop :=
 ifB (((d_n : Nat) : Int) != ((i_n : Nat) : Int)) (R (.returned (.bool false)) w) (∃ (I1 : Int → World → Prop) (m1 : Int → World → Nat), I1 0 w ∧ ∀ n2 w3, I1 n2 w3 → ifB (decide (n2 < ((d_n : Nat) : Int))) (Ac d (fun d4 => (0 ≤ n2 ∧ n2 < (d_n : Nat)) ∧ ∃ n5 n6 n7 n8 x9, Ah w3 (Addr.add d4 (n2.toNat * 5)) 0 [.int .i64 n5, .int .i64 n6, .int .i64 n7, .int .u64 n8, .float .f64 x9] ∧ ∀ w10, Grew w3 w10 → Ac i (fun d11 => (0 ≤ n2 ∧ n2 < (i_n : Nat)) ∧ ∃ n12 n13 n14 n15 x16, Ah w10 (Addr.add d11 (n2.toNat * 5)) 0 [.int .i64 n12, .int .i64 n13, .int .i64 n14, .int .u64 n15, .float .f64 x16] ∧ ∀ w17, Grew w10 w17 → ifB (n5 != n12) (R (.returned (.bool false)) w17) (ifB (n6 != n13) (R (.returned (.bool false)) w17) (ifB (n7 != n14) (R (.returned (.bool false)) w17) (ifB (n8 != n15) (R (.returned (.bool false)) w17) (Aa Tryz.prog 28 [.float .f64 x9, .float .f64 x16] w17 (RetR R fun u19 w18 => ∃ b20, u19 = .bool b20 ∧ ifB (!b20) (R (.returned (.bool false)) w18) ((I1 (IntKind.i64.wrap (n2 + 1)) w18 ∧ m1 (IntKind.i64.wrap (n2 + 1)) w18 < m1 n2 w3)))))))))) (R (.returned (.bool true)) w3))
theorem sx14.ok {d : Option Addr} {d_n d_c : Nat} {i : Option Addr} {i_n i_c : Nat} {R : Ending → World → Prop} {w : World} (h : sx14 d d_n d_c i i_n i_c R w) : Aa Tryz.prog 14 [.slice d d_n d_c, .slice i i_n i_c] w R :=
 okOf { locals := [6, 7], loops := [(4, { slots := [(5, .int .i64)], cells := [] })] } mix Tryz.func14 (by kernel_rfl) (by kernel_rfl) (by kernel_rfl) h
theorem Mx {a b : Nat} {w : World} : Aa Tryz.prog 28 [.float .f64 a, .float .f64 b] w (Rets fun v w' => v = .bool (decide (a = b)) ∧ w' = w) := by
 refine sx28.ok ?_
 unfold sx28
 refine Gn.use fun v w1 ⟨hv, hw⟩ => ?_
 subst hv; subst hw
 refine ⟨_, rfl, Gn.use fun v w2 ⟨hv, hw⟩ => ?_⟩
 subst hv; subst hw
 refine ⟨_, rfl, _, rfl, ?_, rfl⟩
 congr 1
 rw [Bool.eq_iff_iff, beq_iff_eq, decide_eq_true_eq]; omega
theorem O3 {α : Type} {l r : List α} {j : Nat} {x y : α} (h1 : l[j]? = some x) (h2 : r[j]? = some y) (h : x ≠ y) : l ≠ r := fun e => by
 rw [e, h2] at h1; exact h (Option.some.inj h1).symm
theorem Jw {α : Type} {l r : List α} {j : Nat} {x : α} (h1 : l[j]? = some x) (h2 : r[j]? = some x) (h : l.take j = r.take j) : l.take (j + 1) = r.take (j + 1) := by
 rw [List.take_add_one, List.take_add_one, h1, h2, h]
theorem Lj {p q : ScrP} {o o' : Sl3} {w : World} (ho : Reads w Enc.op3 o p.ops) (ho' : Reads w Enc.op3 o' q.ops) (hl : p.ops.length ≤ maxLen) :
  Aa Tryz.prog 13 [Iv p o, Iv q o'] w (Rets fun v w' => v = .bool (decide (p = q)) ∧ Grew w w') := by
 refine sx13.ok ?_
 unfold sx13
 obtain ⟨oa, on, oc⟩ := o
 obtain ⟨pa, pn, pc⟩ := o'
 have e1 : on = p.ops.length := ho.2.1
 have e2 : pn = q.ops.length := ho'.2.1
 subst e1; subst e2
 intro w1 hg1 w2 hg2
 have hg := hg1.trans hg2
 have no : p ≠ q → ∀ w', Grew w w' → Rets (fun v w' => v = .bool (decide (p = q)) ∧ Grew w w') (.returned (.bool false)) w' := fun h w' hg => ⟨_, rfl, by rw [decide_eq_false h], hg⟩
 have ne : ∀ {x y : Int}, (x != y) = true → x ≠ y := fun h => by simpa using h
 have eqq : ∀ {x y : Int}, (x != y) = false → x = y := fun h => by simpa using h
 refine ⟨fun h => no (fun e => ne h (by rw [e])) _ hg, fun h0 => ⟨fun h => no (fun e => ne h (by rw [e])) _ hg, fun h1 => ⟨fun h => no (fun e => ne h (by rw [e])) _ hg, fun h2 => ⟨fun h => no (fun e => ne h (by rw [e])) _ hg, fun h3 => ⟨fun h => no (fun e => ne h (by rw [e])) _ hg, fun h4 =>
  ⟨fun h => no (fun e => ne h (by rw [e])) _ hg, fun h5 => ⟨fun h => no (fun e => ne h (by rw [e])) _ hg, fun h6 => ⟨fun h => no (fun e => ne h (by rw [e])) _ hg, fun h7 => ?_⟩⟩⟩⟩⟩⟩⟩⟩
 have hln : p.ops.length = q.ops.length := by have := eqq h7; simp only at this; omega
 refine ⟨fun n w' => ∃ j : Nat, n = j ∧ j ≤ p.ops.length ∧ p.ops.take j = q.ops.take j ∧ Grew w w', fun n _ => p.ops.length - n.toNat, ⟨0, rfl, Nat.zero_le _, rfl, hg⟩, ?_⟩
 rintro n w5 ⟨j, rfl, hj, ht, hg5⟩
 refine ⟨fun hlt => ?_, fun hge => ?_⟩
 ·intro w6 hg6
  have hg56 := hg5.trans hg6
  simp only [decide_eq_true_eq] at hlt
  have hjl : j < p.ops.length := by omega
  obtain ⟨d, x, hd, hx, hc⟩ := (ho.grew hg56).at0 (k := j) hjl
  obtain ⟨d', y, hd', hy, hc'⟩ := (ho'.grew hg56).at0 (k := j) (by omega)
  cases hd; cases hd'
  obtain ⟨c0, c1, c2, -⟩ := hc
  obtain ⟨c0', c1', c2', -⟩ := hc'
  have nx : x ≠ y → p ≠ q := fun h e => O3 hx hy h (by rw [e])
  simp only [Ac]
  refine ⟨⟨by omega, by omega⟩, _, c0, ⟨by omega, by omega⟩, _, c0', fun h => no (nx fun e => ne h (by rw [e])) _ hg56, fun k0 => ⟨⟨by omega, by omega⟩, _, c1, ⟨by omega, by omega⟩, _, c1', fun h => no (nx fun e => ne h (by rw [e])) _ hg56, fun k1 => ⟨⟨by omega, by omega⟩, _, c2, ⟨by omega, by omega⟩, _, c2', Mx.use fun v w19 ⟨hv, hw⟩ => ?_⟩⟩⟩
  subst hv
  refine ⟨_, rfl, by rw [hw]; exact Ia _ _, fun hs => no (nx fun e => ?_) _ (hw ▸ hg56), fun hs => ?_⟩
  ·rw [e] at hs; simp at hs
  ·have hxy : x = y := by
    have e2 : x.x = y.x := by simpa using hs
    cases x; cases y; simp only at e2; cases eqq k0; cases eqq k1; cases e2; rfl
   rw [C7 (by have e : maxLen = 9223372036854775807 := rfl; omega), hw]
   refine ⟨⟨j + 1, rfl, hjl, Jw hx (hxy ▸ hy) ht, hg56⟩, ?_⟩
   show p.ops.length - (((j + 1 : Nat) : Int)).toNat < p.ops.length - ((j : Nat) : Int).toNat; omega
 ·simp only [decide_eq_false_iff_not] at hge
  have : j = p.ops.length := by omega
  subst this
  rw [List.take_length, hln, List.take_length] at ht
  have : p = q := by cases p; cases q; simp only at ht; cases eqq h0; cases eqq h1; cases eqq h2; cases eqq h3; cases eqq h4; cases eqq h5; cases eqq h6; cases ht; rfl
  exact ⟨_, rfl, by rw [decide_eq_true this], hg5⟩
theorem Kh {l r : List Af} {a a' : Option Addr} {n n' c c' : Nat} {w : World} (hl : Reads w Enc.stepE (a, n, c) l) (hr : Reads w Enc.stepE (a', n', c') r) (hn : l.length ≤ maxLen) :
  Aa Tryz.prog 14 [.slice a n c, .slice a' n' c'] w (Rets fun v w' => v = .bool (decide (l = r)) ∧ Grew w w') := by
 refine sx14.ok ?_
 unfold sx14
 have e1 : n = l.length := hl.2.1
 have e2 : n' = r.length := hr.2.1
 subst e1; subst e2
 have no : l ≠ r → ∀ w', Grew w w' → Rets (fun v w' => v = .bool (decide (l = r)) ∧ Grew w w') (.returned (.bool false)) w' := fun h w' hg => ⟨_, rfl, by rw [decide_eq_false h], hg⟩
 have ne : ∀ {x y : Int}, (x != y) = true → x ≠ y := fun h => by simpa using h
 have eqq : ∀ {x y : Int}, (x != y) = false → x = y := fun h => by simpa using h
 refine ⟨fun h => no (fun e => ne h (by rw [e])) _ (Grew.refl _), fun h0 => ?_⟩
 have hln : l.length = r.length := by have := eqq h0; omega
 refine ⟨fun n w' => ∃ j : Nat, n = j ∧ j ≤ l.length ∧ l.take j = r.take j ∧ Grew w w', fun n _ => l.length - n.toNat, ⟨0, rfl, Nat.zero_le _, rfl, Grew.refl _⟩, ?_⟩
 rintro n w5 ⟨j, rfl, hj, ht, hg5⟩
 refine ⟨fun hlt => ?_, fun hge => ?_⟩
 ·simp only [decide_eq_true_eq] at hlt
  have hjl : j < l.length := by omega
  obtain ⟨d, x, hd, hx, hc⟩ := (hl.grew hg5).at0 (k := j) hjl
  subst hd
  simp only [Ac]
  refine ⟨⟨by omega, by omega⟩, _, _, _, _, _, hc, fun w10 hg10 => ?_⟩
  obtain ⟨d', y, hd', hy, hc'⟩ := (hr.grew (hg5.trans hg10)).at0 (k := j) (by omega)
  subst hd'
  have nx : x ≠ y → l ≠ r := fun h e => O3 hx hy h e
  refine ⟨⟨by omega, by omega⟩, _, _, _, _, _, hc', fun w17 hg17 => ?_⟩
  have hg := hg5.trans (hg10.trans hg17)
  refine ⟨fun h => no (nx fun e => ne h (by rw [e])) _ hg, fun k0 => ⟨fun h => no (nx fun e => ne h (by rw [e])) _ hg, fun k1 => ⟨fun h => no (nx fun e => ne h (by rw [e])) _ hg, fun k2 => ⟨fun h => no (nx fun e => ne h (by rw [e])) _ hg, fun k3 => Mx.use fun v w18 ⟨hv, hw⟩ => ?_⟩⟩⟩⟩
  subst hv
  refine ⟨_, rfl, fun hs => no (nx fun e => ?_) _ (hw ▸ hg), fun hs => ?_⟩
  ·rw [e] at hs; simp at hs
  ·have hxy : x = y := by
    have e2 : x.r.val = y.r.val := by simpa using hs
    obtain ⟨xk, xn, xm, ⟨xr, xv⟩⟩ := x
    obtain ⟨yk, yn, ym, ⟨yr, yv⟩⟩ := y
    simp only at e2; cases eqq k0; cases eqq k1; cases eqq k2; cases eqq k3; cases e2; rfl
   rw [C7 (by have e : maxLen = 9223372036854775807 := rfl; omega), hw]
   refine ⟨⟨j + 1, rfl, hjl, Jw hx (hxy ▸ hy) ht, hg⟩, ?_⟩
   show l.length - (((j + 1 : Nat) : Int)).toNat < l.length - ((j : Nat) : Int).toNat; omega
 ·simp only [decide_eq_false_iff_not] at hge
  have : j = l.length := by omega
  subst this
  rw [List.take_length, hln, List.take_length] at ht
  exact ⟨_, rfl, by rw [decide_eq_true ht], hg5⟩
end Go.Proofs.YtbmmaibbiahkkaaGreatDoor
