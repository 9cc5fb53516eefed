/- What laws over scripts compare. Conditions: none. -/
import Derived.Test.YtbmmaibbiahkkaaGreatDoorProg
import Derived.Test.YtbmmaibbiahkkaaGreatDoorScrW
import Derived.Test.YtbmmaibbiahkkaaGreatDoorScrQ
import Derived.Test.YtbmmaibbiahkkaaGreatDoorSxSh
import Derived.Test.YtbmmaibbiahkkaaGreatDoorSxSi
namespace Go.Proofs.YtbmmaibbiahkkaaGreatDoor
open Go.Sx
set_option maxRecDepth 100000
set_option linter.unusedVariables false
set_option linter.unusedSimpArgs false
def sx28 (a b : Nat) (R : Ending → World → Prop) (w : World) : Prop :=
 Aa Tryz.prog 48 [.float .f64 a] w (RetR R fun u2 w1 => ∃ n3, u2 = .int .u64 n3 ∧ Aa Tryz.prog 48 [.float .f64 b] w1 (RetR R fun u6 w5 => ∃ n7, u6 = .int .u64 n7 ∧ R (.returned (.bool (n3 == n7))) w5))
theorem sx28.ok {a b : Nat} {R : Ending → World → Prop} {w : World} (h : sx28 a b R w) : Aa Tryz.prog 28 [.float .f64 a, .float .f64 b] w R :=
 okOf {} mix Tryz.func28 (by kernel_rfl) (by kernel_rfl) (by kernel_rfl) h
def sx14 (d : Option Addr) (d_n d_c : Nat) (i : Option Addr) (i_n i_c : Nat) (R : Ending → World → Prop) (w : World) : Prop :=
 ifB (((d_n : Nat) : Int) != ((i_n : Nat) : Int)) (R (.returned (.bool false)) w) (∃ (I1 : Int → World → Prop) (m1 : Int → World → Nat), I1 0 w ∧ ∀ n2 w3, I1 n2 w3 → ifB (decide (n2 < ((d_n : Nat) : Int))) (Af d (fun d4 => (0 ≤ n2 ∧ n2 < (d_n : Nat)) ∧ ∃ n5 n6 n7 n8 x9, Ai w3 (Addr.add d4 (n2.toNat * 5)) 0 [.int .i64 n5, .int .i64 n6, .int .i64 n7, .int .u64 n8, .float .f64 x9] ∧ ∀ w10, Grew w3 w10 → Af i (fun d11 => (0 ≤ n2 ∧ n2 < (i_n : Nat)) ∧ ∃ n12 n13 n14 n15 x16, Ai w10 (Addr.add d11 (n2.toNat * 5)) 0 [.int .i64 n12, .int .i64 n13, .int .i64 n14, .int .u64 n15, .float .f64 x16] ∧ ∀ w17, Grew w10 w17 → ifB (n5 != n12) (R (.returned (.bool false)) w17) (ifB (n6 != n13) (R (.returned (.bool false)) w17) (ifB (n7 != n14) (R (.returned (.bool false)) w17) (ifB (n8 != n15) (R (.returned (.bool false)) w17) (Aa Tryz.prog 28 [.float .f64 x9, .float .f64 x16] w17 (RetR R fun u19 w18 => ∃ b20, u19 = .bool b20 ∧ ifB (!b20) (R (.returned (.bool false)) w18) ((I1 (IntKind.i64.wrap (n2 + 1)) w18 ∧ m1 (IntKind.i64.wrap (n2 + 1)) w18 < m1 n2 w3)))))))))) (R (.returned (.bool true)) w3))
theorem sx14.ok {d : Option Addr} {d_n d_c : Nat} {i : Option Addr} {i_n i_c : Nat} {R : Ending → World → Prop} {w : World} (h : sx14 d d_n d_c i i_n i_c R w) : Aa Tryz.prog 14 [.slice d d_n d_c, .slice i i_n i_c] w R :=
 okOf { locals := [6, 7], loops := [(4, { slots := [(5, .int .i64)], cells := [] })] } mix Tryz.func14 (by kernel_rfl) (by kernel_rfl) (by kernel_rfl) h
theorem Pd {a b : Nat} {w : World} : Aa Tryz.prog 28 [.float .f64 a, .float .f64 b] w (Rets fun v w' => v = .bool (decide (a = b)) ∧ w' = w) := by
 refine sx28.ok ?_
 unfold sx28
 refine Gj.use fun v w1 ⟨hv, hw⟩ => ?_
 subst hv; subst hw
 refine ⟨_, rfl, Gj.use fun v w2 ⟨hv, hw⟩ => ?_⟩
 subst hv; subst hw
 refine ⟨_, rfl, _, rfl, ?_, rfl⟩
 congr 1
 rw [Bool.eq_iff_iff, beq_iff_eq, decide_eq_true_eq]; omega
theorem P4 {α : Type} {l r : List α} {j : Nat} {x y : α} (h1 : l[j]? = some x) (h2 : r[j]? = some y) (h : x ≠ y) : l ≠ r := fun e => by
 rw [e, h2] at h1; exact h (Option.some.inj h1).symm
theorem Na {α : Type} {l r : List α} {j : Nat} {x : α} (h1 : l[j]? = some x) (h2 : r[j]? = some x) (h : l.take j = r.take j) : l.take (j + 1) = r.take (j + 1) := by
 rw [List.take_add_one, List.take_add_one, h1, h2, h]
theorem Pe {l r : List Ag} {a a' : Option Addr} {n n' c c' : Nat} {w : World} (hl : Reads w Enc.stepE (a, n, c) l) (hr : Reads w Enc.stepE (a', n', c') r) (hn : l.length ≤ maxLen) :
  Aa Tryz.prog 14 [.slice a n c, .slice a' n' c'] w (Rets fun v w' => v = .bool (decide (l = r)) ∧ Grew w w') := by
 refine sx14.ok ?_
 unfold sx14
 have e1 : n = l.length := hl.2.1
 have e2 : n' = r.length := hr.2.1
 subst e1; subst e2
 have no : l ≠ r → ∀ w', Grew w w' → Rets (fun v w' => v = .bool (decide (l = r)) ∧ Grew w w') (.returned (.bool false)) w' := fun h w' hg => ⟨_, rfl, by rw [decide_eq_false h], hg⟩
 have ne : ∀ {x y : Int}, (x != y) = true → x ≠ y := fun h => by simpa using h
 have eqq : ∀ {x y : Int}, (x != y) = false → x = y := fun h => by simpa using h
 refine ⟨fun h => no (fun e => ne h (by rw [e])) _ (Grew.refl _), fun h0 => ?_⟩
 have hln : l.length = r.length := by have := eqq h0; omega
 refine ⟨fun n w' => ∃ j : Nat, n = j ∧ j ≤ l.length ∧ l.take j = r.take j ∧ Grew w w', fun n _ => l.length - n.toNat, ⟨0, rfl, Nat.zero_le _, rfl, Grew.refl _⟩, ?_⟩
 rintro n w5 ⟨j, rfl, hj, ht, hg5⟩
 refine ⟨fun hlt => ?_, fun hge => ?_⟩
 ·simp only [decide_eq_true_eq] at hlt
  have hjl : j < l.length := by omega
  obtain ⟨d, x, hd, hx, hc⟩ := (hl.grew hg5).at0 (k := j) hjl
  subst hd
  simp only [Af]
  refine ⟨⟨by omega, by omega⟩, _, _, _, _, _, hc, fun w10 hg10 => ?_⟩
  obtain ⟨d', y, hd', hy, hc'⟩ := (hr.grew (hg5.trans hg10)).at0 (k := j) (by omega)
  subst hd'
  have nx : x ≠ y → l ≠ r := fun h e => P4 hx hy h e
  refine ⟨⟨by omega, by omega⟩, _, _, _, _, _, hc', fun w17 hg17 => ?_⟩
  have hg := hg5.trans (hg10.trans hg17)
  refine ⟨fun h => no (nx fun e => ne h (by rw [e])) _ hg, fun k0 => ⟨fun h => no (nx fun e => ne h (by rw [e])) _ hg, fun k1 => ⟨fun h => no (nx fun e => ne h (by rw [e])) _ hg, fun k2 => ⟨fun h => no (nx fun e => ne h (by rw [e])) _ hg, fun k3 => Pd.use fun v w18 ⟨hv, hw⟩ => ?_⟩⟩⟩⟩
  subst hv
  refine ⟨_, rfl, fun hs => no (nx fun e => ?_) _ (hw ▸ hg), fun hs => ?_⟩
  ·rw [e] at hs; simp at hs
  ·have hxy : x = y := by
    have e2 : x.r.val = y.r.val := by simpa using hs
    obtain ⟨xk, xn, xm, ⟨xr, xv⟩⟩ := x
    obtain ⟨yk, yn, ym, ⟨yr, yv⟩⟩ := y
    simp only at e2; cases eqq k0; cases eqq k1; cases eqq k2; cases eqq k3; cases e2; rfl
   rw [Fz (by have e : maxLen = 9223372036854775807 := rfl; omega), hw]
   refine ⟨⟨j + 1, rfl, hjl, Na hx (hxy ▸ hy) ht, hg⟩, ?_⟩
   show l.length - (((j + 1 : Nat) : Int)).toNat < l.length - ((j : Nat) : Int).toNat; omega
 ·simp only [decide_eq_false_iff_not] at hge
  have : j = l.length := by omega
  subst this
  rw [List.take_length, hln, List.take_length] at ht
  exact ⟨_, rfl, by rw [decide_eq_true ht], hg5⟩
end Go.Proofs.YtbmmaibbiahkkaaGreatDoor
