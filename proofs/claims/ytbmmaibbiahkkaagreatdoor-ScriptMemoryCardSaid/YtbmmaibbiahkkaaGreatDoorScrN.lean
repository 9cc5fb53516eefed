/- What the laws over scripts call first. Conditions: none. -/
import Derived.Test.YtbmmaibbiahkkaaGreatDoorProg
import Derived.Test.YtbmmaibbiahkkaaGreatDoorScrS
import Derived.Test.YtbmmaibbiahkkaaGreatDoorScrM
import Derived.Test.YtbmmaibbiahkkaaGreatDoorScrQ
namespace Go.Proofs.YtbmmaibbiahkkaaGreatDoor
open Go.Sx
set_option maxRecDepth 100000
set_option linter.unusedVariables false
set_option linter.unusedSimpArgs false
def sx10  (R : Ending → World → Prop) (w : World) : Prop :=
  Aa Tryz.prog 11 [.string (ByteArray.mk (#[112, 108, 97, 110, 32, 49, 32, 49, 32, 49, 32, 50, 32, 52, 32, 50, 32, 56, 10, 111, 112, 32, 52, 32, 48, 32, 48, 48, 48, 48, 48, 48, 48, 48, 48, 48, 48, 48, 48, 48, 48, 48, 10, 112, 114, 111, 100, 117, 99, 101, 32, 48, 32, 55, 32, 52, 48, 49, 52, 48, 48, 48, 48, 48, 48, 48, 48, 48, 48, 48, 48, 10, 35, 10, 116, 105, 99, 107, 10]) : ByteArray)] w (RetR R fun u2 w1 => ∃ n3 n4 n5 a6 l6 c6 n7 n8 n9 n10 a11 l11 c11 n12 n13, u2 = .tuple #[.agg #[.int .i64 n3, .int .i64 n4, .int .i64 n5, .slice a6 l6 c6, .int .i64 n7, .int .i64 n8, .int .i64 n9, .int .i64 n10], .slice a11 l11 c11, .int .i64 n12, .int .i64 n13] ∧ ∀ w15, Grew w1 w15 → Aa Tryz.prog 15 [.agg #[.int .i64 n3, .int .i64 n4, .int .i64 n5, .slice a6 l6 c6, .int .i64 n7, .int .i64 n8, .int .i64 n9, .int .i64 n10], .slice a11 l11 c11] w15 (RetR R fun u17 w16 => ∃ s18 n19, u17 = .tuple #[.string s18, .int .i64 n19] ∧ Aa Tryz.prog 11 [.string (ByteArray.mk (#[112, 108, 97, 110, 32, 49, 32, 49, 32, 49, 32, 50, 32, 52, 32, 50, 32, 56, 10, 116, 105, 99, 107, 32, 49]) : ByteArray)] w16 (RetR R fun u22 w21 => ∃ n23 n24 n25 a26 l26 c26 n27 n28 n29 n30 a31 l31 c31 n32 n33, u22 = .tuple #[.agg #[.int .i64 n23, .int .i64 n24, .int .i64 n25, .slice a26 l26 c26, .int .i64 n27, .int .i64 n28, .int .i64 n29, .int .i64 n30], .slice a31 l31 c31, .int .i64 n32, .int .i64 n33] ∧ ∀ w35, Grew w21 w35 → Aa Tryz.prog 11 [.string (ByteArray.mk (#[116, 105, 99, 107]) : ByteArray)] w35 (RetR R fun u37 w36 => ∃ n38 n39 n40 a41 l41 c41 n42 n43 n44 n45 a46 l46 c46 n47 n48, u37 = .tuple #[.agg #[.int .i64 n38, .int .i64 n39, .int .i64 n40, .slice a41 l41 c41, .int .i64 n42, .int .i64 n43, .int .i64 n44, .int .i64 n45], .slice a46 l46 c46, .int .i64 n47, .int .i64 n48] ∧ ∀ w50, Grew w36 w50 → ifB (n13 == 0) (ifB (n12 == 0) (ifB (n10 == 8) (ifB (((l6 : Nat) : Int) == 1) (∀ b51 w52, Ar w50 w52 b51 (.cells #[.int .i64 1, .int .i64 0, .int .i64 0, .int .u64 7, .float .f64 4617315517961601024, .int .i64 3, .int .i64 0, .int .i64 0, .int .u64 0, .float .f64 0] 46) → Aa Tryz.prog 14 [.slice a11 l11 c11, .slice (some ⟨b51, 0, none⟩) 2 2] w52 (RetR R fun u54 w53 => ∃ b55, u54 = .bool b55 ∧ ifB b55 (ifB (n19 == 0) (∃ b57, Am Tryz.prog (eqS .eql 9 (.tmp 69) (.const (.string (ByteArray.mk (#[112, 108, 97, 110, 32, 49, 32, 49, 32, 49, 32, 50, 32, 52, 32, 50, 32, 56, 10, 111, 112, 32, 52, 32, 48, 32, 48, 48, 48, 48, 48, 48, 48, 48, 48, 48, 48, 48, 48, 48, 48, 48, 10, 112, 114, 111, 100, 117, 99, 101, 32, 48, 32, 55, 32, 52, 48, 49, 52, 48, 48, 48, 48, 48, 48, 48, 48, 48, 48, 48, 48, 10, 116, 105, 99, 107, 10]) : ByteArray))) (.string s18) (.string (ByteArray.mk (#[112, 108, 97, 110, 32, 49, 32, 49, 32, 49, 32, 50, 32, 52, 32, 50, 32, 56, 10, 111, 112, 32, 52, 32, 48, 32, 48, 48, 48, 48, 48, 48, 48, 48, 48, 48, 48, 48, 48, 48, 48, 48, 10, 112, 114, 111, 100, 117, 99, 101, 32, 48, 32, 55, 32, 52, 48, 49, 52, 48, 48, 48, 48, 48, 48, 48, 48, 48, 48, 48, 48, 10, 116, 105, 99, 107, 10])
 : ByteArray))) (.bool b57) ∧ ifB b57 (ifB (n32 == 2) (ifB (n33 == 211) (ifB (n47 == 1) (R (.returned (.bool (n48 == 210))) w53) (R (.returned (.bool false)) w53)) (R (.returned (.bool false)) w53)) (R (.returned (.bool false)) w53)) (R (.returned (.bool false)) w53)) (R (.returned (.bool false)) w53)) (R (.returned (.bool false)) w53))) (R (.returned (.bool false)) w50)) (R (.returned (.bool false)) w50)) (R (.returned (.bool false)) w50)) (R (.returned (.bool false)) w50)))))
theorem sx10.ok  {R : Ending → World → Prop} {w : World} (h : sx10  R w) : Aa Tryz.prog 10 [] w R :=
 okOf { locals := [1, 7, 11], pureTo := [70] } mix Tryz.func10 (by kernel_rfl) (by kernel_rfl) (by kernel_rfl) h
def pP : Except (Int × Nat) (ScrP × List Af) → ScrP
 | .ok (p, _) => p
 | .error _ => ⟨0, 0, 0, 0, 0, 0, 0, []⟩
def pL : Except (Int × Nat) (ScrP × List Af) → List Af
 | .ok (_, l) => l
 | .error _ => []
def pA : Except (Int × Nat) (ScrP × List Af) → Int
 | .ok _ => 0
 | .error (_, n) => (n : Int)
def pE : Except (Int × Nat) (ScrP × List Af) → Int
 | .ok _ => 0
 | .error (e, _) => e
theorem D4 {B : Nat} {r : Except (Int × Nat) (ScrP × List Af)} {v : Value} {w' : World} (h : Mv B r v w') :
  ∃ o s : Sl3, v = .tuple #[Iv (pP r) o, .slice s.1 s.2.1 s.2.2, .int .i64 (pA r), .int .i64 (pE r)] ∧ Own w' B 49 Enc.op3 o.1 o.2.1 o.2.2 (pP r).ops ∧ Own w' B 46 Enc.stepE s.1 s.2.1 s.2.2 (pL r) := by
 cases r with
 | error x =>
  obtain ⟨e, n⟩ := x
  exact ⟨(none, 0, 0), (none, 0, 0), h, Own.nil _ _ _ _, Own.nil _ _ _ _⟩
 | ok x =>
  obtain ⟨p, l⟩ := x
  obtain ⟨o, s, rfl, h1, h2⟩ := h
  exact ⟨o, s, rfl, h1, h2⟩
def awT : L8 := [112, 108, 97, 110, 32, 49, 32, 49, 32, 49, 32, 50, 32, 52, 32, 50, 32, 56, 10, 111, 112, 32, 52, 32, 48, 32, 48, 48, 48, 48, 48, 48, 48, 48, 48, 48, 48, 48, 48, 48, 48, 48, 10, 112, 114, 111, 100, 117, 99, 101, 32, 48, 32, 55, 32, 52, 48, 49, 52, 48, 48, 48, 48, 48, 48, 48, 48, 48, 48, 48, 48, 10, 35, 10, 116, 105, 99, 107, 10]
def awU : L8 := [112, 108, 97, 110, 32, 49, 32, 49, 32, 49, 32, 50, 32, 52, 32, 50, 32, 56, 10, 111, 112, 32, 52, 32, 48, 32, 48, 48, 48, 48, 48, 48, 48, 48, 48, 48, 48, 48, 48, 48, 48, 48, 10, 112, 114, 111, 100, 117, 99, 101, 32, 48, 32, 55, 32, 52, 48, 49, 52, 48, 48, 48, 48, 48, 48, 48, 48, 48, 48, 48, 48, 10, 116, 105, 99, 107, 10]
def awP : ScrP := ⟨1, 1, 1, 2, 4, 2, 8, [⟨4, 0, 0⟩]⟩
def awL : List Af := [⟨1, 0, 0, ⟨7, 4617315517961601024⟩⟩, ⟨3, 0, 0, ⟨0, 0⟩⟩]
theorem O4 : B6 awT = .ok (awP, awL) := by kernel_rfl
theorem O5 : Bm awP awL = .ok awU := by kernel_rfl
theorem O6 : B6 [112, 108, 97, 110, 32, 49, 32, 49, 32, 49, 32, 50, 32, 52, 32, 50, 32, 56, 10, 116, 105, 99, 107, 32, 49] = .error (211, 2) := by kernel_rfl
theorem Py : B6 [116, 105, 99, 107] = .error (210, 1) := by kernel_rfl
theorem Pz : ScrP.Fits awP := ⟨by decide, fun o ho => by
 simp only [awP, List.mem_singleton] at ho
 subst ho
 refine ⟨⟨?_, ?_⟩, ⟨?_, ?_⟩, ?_⟩ <;> decide⟩
theorem O7 : ∀ x ∈ awL, x.Fits := fun x hx => by
 simp only [awL, List.mem_cons, List.mem_nil_iff, or_false] at hx
 rcases hx with rfl | rfl <;> refine ⟨⟨?_, ?_⟩, ⟨?_, ?_⟩, ⟨?_, ?_⟩, ⟨?_, ?_⟩, ?_⟩ <;> decide
theorem O8 {w : World} (hG : Glob w) : Aa Tryz.prog 10 [] w (Rets fun v w' => v = .bool true ∧ Grew w w') := by
 refine sx10.ok ?_
 unfold sx10
 refine (E8 (t := awT) hG).use fun v w1 ⟨hv, hg1⟩ => ?_
 rw [O4] at hv
 obtain ⟨o, s, rfl, ho, hs⟩ := D4 hv
 refine ⟨_, _, _, _, _, _, _, _, _, _, _, _, _, _, _, rfl, fun w15 hg15 => (Iw (p := awP) (steps := awL) (hG.grew (hg1.trans hg15)) Pz O7 (ho.reads.grew hg15) (hs.reads.grew hg15)).use fun v w16 ⟨hv, hg16⟩ => ?_⟩
 rw [O5] at hv
 subst hv
 have hg16' := hg1.trans (hg15.trans hg16)
 refine ⟨_, _, rfl, (E8 (t := [112, 108, 97, 110, 32, 49, 32, 49, 32, 49, 32, 50, 32, 52, 32, 50, 32, 56, 10, 116, 105, 99, 107, 32, 49]) (hG.grew hg16')).use fun v w21 ⟨hv, hg21⟩ => ?_⟩
 rw [O6] at hv
 obtain ⟨o1, s1, rfl, ho1, hs1⟩ := D4 hv
 refine ⟨_, _, _, _, _, _, _, _, _, _, _, _, _, _, _, rfl, fun w35 hg35 => (E8 (t := [116, 105, 99, 107]) (hG.grew (hg16'.trans (hg21.trans hg35)))).use fun v w36 ⟨hv, hg36⟩ => ?_⟩
 rw [Py] at hv
 obtain ⟨o2, s2, rfl, ho2, hs2⟩ := D4 hv
 refine ⟨_, _, _, _, _, _, _, _, _, _, _, _, _, _, _, rfl, fun w50 hg50 => ?_⟩
 have hg50' := hg16'.trans (hg21.trans (hg35.trans (hg36.trans hg50)))
 have h1 : o.2.1 = 1 := ho.len
 rw [h1]
 refine ⟨fun _ => ⟨fun _ => ⟨fun _ => ⟨fun _ => fun b51 w52 hal => ?_, fun h => (by cases h)⟩, fun h => (by cases h)⟩, fun h => (by cases h)⟩, fun h => (by cases h)⟩
 have hr2 : Reads w52 Enc.stepE (some ⟨b51, 0, none⟩, 2, 2) awL := (Own.alloc (l := awL) hal (Nat.le_refl _) rfl (by decide)).reads
 refine (Kh (((hs.reads.grew hg15).grew hg16).grew (hg21.trans (hg35.trans (hg36.trans (hg50.trans hal.grew))))) hr2 (by decide)).use fun v w53 ⟨hv, hg53⟩ => ?_
 subst hv
 refine ⟨_, rfl, fun _ => ⟨fun _ => ⟨_, Ha (a := awU) (b := awU), fun _ => ⟨fun _ => ⟨fun _ => ⟨fun _ => ⟨_, rfl, rfl, hg50'.trans (hal.grew.trans hg53)⟩, fun h => (by cases h)⟩, fun h => (by cases h)⟩, fun h => (by cases h)⟩, fun h => ?_⟩, fun h => (by cases h)⟩, fun h => ?_⟩
 ·simp at h
 ·simp [pL] at h
end Go.Proofs.YtbmmaibbiahkkaaGreatDoor
