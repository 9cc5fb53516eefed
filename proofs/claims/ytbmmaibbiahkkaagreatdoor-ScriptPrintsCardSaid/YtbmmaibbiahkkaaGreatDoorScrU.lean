/- The reference's reading of words. Conditions: none. -/
import Derived.Test.YtbmmaibbiahkkaaGreatDoorProg
import Derived.Test.YtbmmaibbiahkkaaGreatDoorScrF
namespace Go.Proofs.YtbmmaibbiahkkaaGreatDoor
open Go.Sx
set_option maxRecDepth 100000
set_option linter.unusedVariables false
set_option linter.unusedSimpArgs false
theorem Kq {n : Nat} (h : n < 18446744073709551616) : IntKind.u64.wrap (n : Int) = n := by rw [IntKind.wrap_u64]; omega
theorem Ch {j : Nat} (h : j < 9223372036854775807) : IntKind.i64.wrap ((j : Int) + 1) = ((j + 1 : Nat) : Int) := by rw [IntKind.wrap_i64]; omega
def sx24 (word : ByteArray) (R : Ending → World → Prop) (w : World) : Prop :=
  ∃ b1, Ae Tryz.prog (eqS .eql 9 (.tmp 4) (.const (.string (ByteArray.mk (#[112, 114, 111, 100, 117, 99, 101]) : ByteArray))) (.string word) (.string (ByteArray.mk (#[112, 114, 111, 100, 117, 99, 101]) : ByteArray))) (.bool b1) ∧ ifB b1 (R (.returned (.tuple #[.string (ByteArray.mk (#[110, 117, 118]) : ByteArray), .int .i64 1])) w) (∃ b2, Ae Tryz.prog (eqS .eql 9 (.tmp 4) (.const (.string (ByteArray.mk (#[115, 119, 105, 116, 99, 104]) : ByteArray))) (.string word) (.string (ByteArray.mk (#[115, 119, 105, 116, 99, 104]) : ByteArray))) (.bool b2) ∧ ifB b2 (R (.returned (.tuple #[.string (ByteArray.mk (#[110, 107]) : ByteArray), .int .i64 2])) w) (∃ b3, Ae Tryz.prog (eqS .eql 9 (.tmp 4) (.const (.string (ByteArray.mk (#[116, 105, 99, 107]) : ByteArray))) (.string word) (.string (ByteArray.mk (#[116, 105, 99, 107]) : ByteArray))) (.bool b3) ∧ ifB b3 (R (.returned (.tuple #[.string (ByteArray.mk (#[]) : ByteArray), .int .i64 3])) w) (∃ b4, Ae Tryz.prog (eqS .eql 9 (.tmp 4) (.const (.string (ByteArray.mk (#[100, 101, 108, 105, 118, 101, 114]) : ByteArray))) (.string word) (.string (ByteArray.mk (#[100, 101, 108, 105, 118, 101, 114]) : ByteArray))) (.bool b4) ∧ ifB b4 (R (.returned (.tuple #[.string (ByteArray.mk (#[107]) : ByteArray), .int .i64 4])) w) (∃ b5, Ae Tryz.prog (eqS .eql 9 (.tmp 4) (.const (.string (ByteArray.mk (#[100, 114, 111, 112]) : ByteArray))) (.string word) (.string (ByteArray.mk (#[100, 114, 111, 112]) : ByteArray))) (.bool b5) ∧ ifB b5 (R (.returned (.tuple #[.string (ByteArray.mk (#[107]) : ByteArray), .int .i64 5])) w) (∃ b6, Ae Tryz.prog (eqS .eql 9 (.tmp 4) (.const (.string (ByteArray.mk (#[99, 111, 112, 121]) : ByteArray))) (.string word) (.string (ByteArray.mk (#[99, 111, 112, 121]) : ByteArray))) (.bool b6) ∧ ifB b6 (R (.returned (.tuple #[.string (ByteArray.mk (#[107]) : ByteArray), .int .i64 6])) w) (∃ b7, Ae Tryz.prog (eqS .eql 9 (.tmp 4) (.const (.string (ByteArray.mk (#[99, 117, 116]) : ByteArray))) (.string word) (.string (ByteArray.mk (#[99, 117, 116]) : ByteArray))) (.bool b7) ∧ ifB b7 (R (.returned (.tuple #[.string (ByteArray.mk (#[110, 107]) : ByteArray), .int .i64 7])) w) (∃ b8, Ae Tryz.prog (eqS .eql 9 (.tmp 4) (.const (.string (ByteArray.mk (#[99, 114, 97, 115, 104]) : ByteArray))) (.string word) (.string (ByteArray.mk (#[99, 114, 97, 115, 104]) : ByteArray))) (.bool b8) ∧ ifB b8 (R (.returned (.tuple #[.string (ByteArray.mk (#[110]) : ByteArray), .int .i64 8])) w) (∃ b9, Ae Tryz.prog (eqS .eql 9 (.tmp 4) (.const (.string (ByteArray.mk (#[114, 101, 115, 116, 97, 114, 116]) : ByteArray))) (.string word) (.string (ByteArray.mk (#[114, 101, 115, 116, 97, 114, 116]) : ByteArray))) (.bool b9) ∧ ifB b9 (R (.returned (.tuple #[.string (ByteArray.mk (#[110]) : ByteArray), .int .i64 9])) w) (∃ b10, Ae Tryz.prog (eqS .eql 9 (.tmp 4) (.const (.string (ByteArray.mk (#[113, 117, 101, 114, 121]) : ByteArray))) (.string word) (.string (ByteArray.mk (#[113, 117, 101, 114, 121]) : ByteArray))) (.bool
 b10) ∧ ifB b10 (R (.returned (.tuple #[.string (ByteArray.mk (#[117]) : ByteArray), .int .i64 10])) w) (∃ b11, Ae Tryz.prog (eqS .eql 9 (.tmp 4) (.const (.string (ByteArray.mk (#[114, 111, 117, 110, 100]) : ByteArray))) (.string word) (.string (ByteArray.mk (#[114, 111, 117, 110, 100]) : ByteArray))) (.bool b11) ∧ ifB b11 (R (.returned (.tuple #[.string (ByteArray.mk (#[]) : ByteArray), .int .i64 11])) w) (R (.returned (.tuple #[.string (ByteArray.mk (#[]) : ByteArray), .int .i64 0])) w)))))))))))
theorem sx24.ok {word : ByteArray} {R : Ending → World → Prop} {w : World} (h : sx24 word R w) : Aa Tryz.prog 24 [.string word] w R :=
 okOf { pureTo := [6, 8, 10, 12, 14, 16, 18, 20, 22, 24, 26] } mix Tryz.func24 (by kernel_rfl) (by kernel_rfl) (by kernel_rfl) h
def askR : Option (Nat × L8) → Value
 | some (k, asks) => .tuple #[.string (bs asks), .int .i64 (k : Int)]
 | none => .tuple #[.string (bs []), .int .i64 0]
theorem Oz {s : L8} {w : World} : Aa Tryz.prog 24 [.string (bs s)] w (Rets fun v w' => v = askR (Cf s) ∧ w' = w) := by
 refine sx24.ok ?_
 unfold sx24
 have step : ∀ {a k : L8} {r : List (L8 × L8)} {i : Nat}, H8 s ((a, k) :: r) i = if a = s then some (i, k) else H8 s r (i + 1) := fun {a k r i} => rfl
 have go : ∀ (o : Option (Nat × L8)), Cf s = o → Rets (fun v w' => v = askR (Cf s) ∧ w' = w) (.returned (askR o)) w := fun o h => ⟨_, rfl, by rw [h], rfl⟩
 have hw : Cf s = H8 s Cr 1 := rfl
 unfold Cr at hw
 rw [step] at hw
 refine ⟨_, B4 (b := [112, 114, 111, 100, 117, 99, 101]), fun h => go (some (1, [110, 117, 118])) (by simp only [decide_eq_true_eq] at h; rw [hw, if_pos h.symm]), fun h => ?_⟩
 simp only [decide_eq_false_iff_not] at h; rw [if_neg (fun e => h e.symm), step] at hw; clear h
 refine ⟨_, B4 (b := [115, 119, 105, 116, 99, 104]), fun h => go (some (2, [110, 107])) (by simp only [decide_eq_true_eq] at h; rw [hw, if_pos h.symm]), fun h => ?_⟩
 simp only [decide_eq_false_iff_not] at h; rw [if_neg (fun e => h e.symm), step] at hw; clear h
 refine ⟨_, B4 (b := [116, 105, 99, 107]), fun h => go (some (3, [])) (by simp only [decide_eq_true_eq] at h; rw [hw, if_pos h.symm]), fun h => ?_⟩
 simp only [decide_eq_false_iff_not] at h; rw [if_neg (fun e => h e.symm), step] at hw; clear h
 refine ⟨_, B4 (b := [100, 101, 108, 105, 118, 101, 114]), fun h => go (some (4, [107])) (by simp only [decide_eq_true_eq] at h; rw [hw, if_pos h.symm]), fun h => ?_⟩
 simp only [decide_eq_false_iff_not] at h; rw [if_neg (fun e => h e.symm), step] at hw; clear h
 refine ⟨_, B4 (b := [100, 114, 111, 112]), fun h => go (some (5, [107])) (by simp only [decide_eq_true_eq] at h; rw [hw, if_pos h.symm]), fun h => ?_⟩
 simp only [decide_eq_false_iff_not] at h; rw [if_neg (fun e => h e.symm), step] at hw; clear h
 refine ⟨_, B4 (b := [99, 111, 112, 121]), fun h => go (some (6, [107])) (by simp only [decide_eq_true_eq] at h; rw [hw, if_pos h.symm]), fun h => ?_⟩
 simp only [decide_eq_false_iff_not] at h; rw [if_neg (fun e => h e.symm), step] at hw; clear h
 refine ⟨_, B4 (b := [99, 117, 116]), fun h => go (some (7, [110, 107])) (by simp only [decide_eq_true_eq] at h; rw [hw, if_pos h.symm]), fun h => ?_⟩
 simp only [decide_eq_false_iff_not] at h; rw [if_neg (fun e => h e.symm), step] at hw; clear h
 refine ⟨_, B4 (b := [99, 114, 97, 115, 104]), fun h => go (some (8, [110])) (by simp only [decide_eq_true_eq] at h; rw [hw, if_pos h.symm]), fun h => ?_⟩
 simp only [decide_eq_false_iff_not] at h; rw [if_neg (fun e => h e.symm), step] at hw; clear h
 refine ⟨_, B4 (b := [114, 101, 115, 116, 97, 114, 116]), fun h => go (some (9, [110])) (by simp only [decide_eq_true_eq] at h; rw [hw, if_pos h.symm]), fun h => ?_⟩
 simp only [decide_eq_false_iff_not] at h; rw [if_neg (fun e => h e.symm), step] at hw; clear h
 refine ⟨_, B4 (b := [113, 117, 101, 114, 121]), fun h => go (some (10, [117])) (by simp only [decide_eq_true_eq] at h; rw [hw, if_pos h.symm]), fun h => ?_⟩
 simp only [decide_eq_false_iff_not] at h; rw [if_neg (fun e => h e.symm), step] at hw; clear h
 refine ⟨_, B4 (b := [114, 111, 117, 110, 100]), fun h => go (some (11, [])) (by simp only [decide_eq_true_eq] at h; rw [hw, if_pos h.symm]), fun h => ?_⟩
 simp only [decide_eq_false_iff_not] at h; rw [if_neg (fun e => h e.symm)] at hw
 exact go none hw
end Go.Proofs.YtbmmaibbiahkkaaGreatDoor
