/- What a range over a text's lines is made of. Conditions: none. -/
import Derived.Test.YtbmmaibbiahkkaaGreatDoorProg
import Derived.Test.YtbmmaibbiahkkaaGreatDoorScrI
namespace Go.Proofs.YtbmmaibbiahkkaaGreatDoor
open Go.Sx
set_option maxRecDepth 100000
set_option linter.unusedVariables false
set_option linter.unusedSimpArgs false
def sx19 (s sep : ByteArray) (R : Ending → World → Prop) (w : World) : Prop :=
 Aa Tryz.prog 40 [.string s, .string sep, .int .i64 0] w (RetR R fun u2 w1 => ∃ v3, u2 = v3 ∧ R (.returned (v3)) w1)
theorem sx19.ok {s sep : ByteArray} {R : Ending → World → Prop} {w : World} (h : sx19 s sep R w) : Aa Tryz.prog 19 [.string s, .string sep] w R :=
 okOf {} mix Tryz.func19 (by kernel_rfl) (by kernel_rfl) (by kernel_rfl) h
def sx40 (s sep : ByteArray) (sepSave : Int) (R : Ending → World → Prop) (w : World) : Prop :=
 ∀ b1 w2, Ar w w2 b1 (.cells [.string s].toArray 9) → ∀ b3 w4, Ar w2 w4 b3 (.cells [.string sep].toArray 9) → ∀ b5 w6, Ar w4 w6 b5 (.cells [.int .i64 sepSave].toArray 3) → R (.returned (.func (.func 58) #[] #[.pointer (some ⟨b3, 0, none⟩), .pointer (some ⟨b1, 0, none⟩), .pointer (some ⟨b5, 0, none⟩)])) w6
theorem sx40.ok {s sep : ByteArray} {sepSave : Int} {R : Ending → World → Prop} {w : World} (h : sx40 s sep sepSave R w) : Aa Tryz.prog 40 [.string s, .string sep, .int .i64 sepSave] w R :=
 okOf {} mix Tryz.func40 (by kernel_rfl) (by kernel_rfl) (by kernel_rfl) h
theorem Lf {s : L8} {w : World} : Aa Tryz.prog 40 [.string (bs s), .string (bs [10]), .int .i64 0] w (Rets fun v w' => ∃ b1 b2 b3, v = .func (.func 58) #[] #[.pointer (some ⟨b1, 0, none⟩), .pointer (some ⟨b2, 0, none⟩), .pointer (some ⟨b3, 0, none⟩)] ∧
  (w.heap.size ≤ b1 ∧ w.heap.size ≤ b2 ∧ w.heap.size ≤ b3) ∧ b1 ≠ b2 ∧ b3 ≠ b2 ∧ SBox w' b1 b2 b3 s ∧ Grew w w') := by
 refine sx40.ok ?_
 unfold sx40
 intro b2 w2 hal2 b1 w4 hal1 b3 w6 hal3
 have s1 := hal2.lt
 have s2 := hal1.lt
 have g1 := hal2.grew.size
 have g2 := hal1.grew.size
 have n2 := hal2.new
 have n1 := hal1.new
 have n3 := hal3.new
 refine ⟨_, rfl, b1, b2, b3, rfl, ⟨by omega, by omega, by omega⟩, by omega, by omega, ⟨?_, ?_, hal3.at_⟩, hal2.grew.trans (hal1.grew.trans hal3.grew)⟩
 ·exact hal3.grew.heap hal1.at_
 ·exact (hal1.grew.trans hal3.grew).heap hal2.at_
theorem Lg {s : L8} {w : World} : Aa Tryz.prog 19 [.string (bs s), .string (bs [10])] w (Rets fun v w' => ∃ b1 b2 b3, v = .func (.func 58) #[] #[.pointer (some ⟨b1, 0, none⟩), .pointer (some ⟨b2, 0, none⟩), .pointer (some ⟨b3, 0, none⟩)] ∧
  (w.heap.size ≤ b1 ∧ w.heap.size ≤ b2 ∧ w.heap.size ≤ b3) ∧ b1 ≠ b2 ∧ b3 ≠ b2 ∧ SBox w' b1 b2 b3 s ∧ Grew w w') := by
 refine sx19.ok ?_
 unfold sx19
 refine Lf.use fun v w1 h => ?_
 exact ⟨_, rfl, _, rfl, h⟩
end Go.Proofs.YtbmmaibbiahkkaaGreatDoor
