/- awake. Conditions: none. -/
import Derived.Test.YtnbknhcpjggabaaProg
import Derived.Test.YtnbknhcpjggabaaBucket5
namespace Go.Proofs.Ytnbknhcpjggabaa
open Go.Sx
set_option maxRecDepth 100000
set_option linter.unusedVariables false
set_option linter.unusedSimpArgs false
/- reprise/repriselaw11.awake -/
def sx9  (R : Ending → World → Prop) (w : World) : Prop :=
  CallsW Try.prog 21 [.int .u64 5, .int .u64 3] w (RetR R fun u2 w1 => ∃ (n3 : Int) (b4 : Bool) (n5 : Int) (b6 : Bool) (n7 : Int) (n8 : Int), u2 = .agg #[.int .u64 n3, .bool b4, .int .u64 n5, .bool b6, .int .u64 n7, .int
    .i64 n8] ∧ ∀ (b10 : Nat) (w11 : World), Alloc w1 w11 b10 (.cells #[.int .u64 n3, .bool b4, .int .u64 n5, .bool b6, .int .u64 n7, .int .i64 n8] 37) → CallsW Try.prog 10 [.slice (some ⟨b10, 0, none⟩) 1 1] w11 (RetR R
    fun u13 w12 => ∃ (a14 : Option Addr) (l14 c14 : Nat) (n15 : Int), u13 = .tuple #[.slice a14 l14 c14, .int .i64 n15] ∧ CallsW Try.prog 12 [.slice a14 l14 c14] w12 (RetR R fun u18 w17 => ∃ (a19 : Option Addr) (l19 c19 :
    Nat) (n20 : Int), u18 = .tuple #[.slice a19 l19 c19, .int .i64 n20] ∧ CallsW Try.prog 21 [.int .u64 2, .int .u64 9] w17 (RetR R fun u23 w22 => ∃ (n24 : Int) (b25 : Bool) (n26 : Int) (b27 : Bool) (n28 : Int) (n29 :
    Int), u23 = .agg #[.int .u64 n24, .bool b25, .int .u64 n26, .bool b27, .int .u64 n28, .int .i64 n29] ∧ CallsW Try.prog 17 [.slice a19 l19 c19, .agg #[.int .u64 n24, .bool b25, .int .u64 n26, .bool b27, .int .u64 n28,
    .int .i64 n29]] w22 (RetR R fun u32 w31 => ∃ (a33 : Option Addr) (l33 c33 : Nat) (n34 : Int), u32 = .tuple #[.slice a33 l33 c33, .int .i64 n34] ∧ CallsW Try.prog 19 [.slice a33 l33 c33, .int .u64 5] w31 (RetR R fun
    u37 w36 => ∃ (a38 : Option Addr) (l38 c38 : Nat) (n39 : Int), u37 = .tuple #[.slice a38 l38 c38, .int .i64 n39] ∧ CallsW Try.prog 15 [.slice a33 l33 c33, .int .u64 5] w36 (RetR R fun u42 w41 => ∃ (n43 : Int) (b44 :
    Bool), u42 = .tuple #[.int .i64 n43, .bool b44] ∧ SemW Try.prog (convert 24 9 (.slice a14 l14 c14)) (fun u47 w46 => ∃ (s48 : ByteArray), u47 = .string s48 ∧ ∃ (b49 : Bool), PureTo Try.prog (eqS .eql 9 (.tmp 39)
    (.const (.string ({ data := #[1, 5, 2, 3, 0, 0, 0, 0, 0, 0, 0, 1] }))) (.string s48) (.string ({ data := #[1, 5, 2, 3, 0, 0, 0, 0, 0, 0, 0, 1] }))) (.bool b49) ∧ ((b49 = true → (((n15 == 0) = true → (((n20 == 0) =
    true → (((n34 == 0) = true → (((n39 == 0) = true → CallsW Try.prog 21 [.int .u64 2, .int .u64 9] w46 (RetR R fun u51 w50 => ∃ (n52 : Int) (b53 : Bool) (n54 : Int) (b55 : Bool) (n56 : Int) (n57 : Int), u51 = .agg
    #[.int .u64 n52, .bool b53, .int .u64 n54, .bool b55, .int .u64 n56, .int .i64 n57] ∧ CallsW Try.prog 21 [.int .u64 5, .int .u64 3] w50 (RetR R fun u60 w59 => ∃ (n61 : Int) (b62 : Bool) (n63 : Int) (b64 : Bool) (n65 :
    Int) (n66 : Int), u60 = .agg #[.int .u64 n61, .bool b62, .int .u64 n63, .bool b64, .int .u64 n65, .int .i64 n66] ∧ ∀ (b68 : Nat) (w69 : World), Alloc w59 w69 b68 (.cells #[.int .u64 n52, .bool b53, .int .u64 n54,
    .bool b55, .int .u64 n56, .int .i64 n57, .int .u64 n61, .bool b62, .int .u64 n63, .bool b64, .int .u64 n65, .int .i64 n66] 37) → CallsW Try.prog 14 [.slice a33 l33 c33, .slice (some ⟨b68, 0, none⟩) 2 2] w69 (RetR R
    fun u71 w70 => ∃ (b72 : Bool), u71 = .bool b72 ∧ ((b72 = true → CallsW Try.prog 21 [.int .u64 2, .int .u64 9] w70 (RetR R fun u75 w74 => ∃ (n76 : Int) (b77 : Bool) (n78 : Int) (b79 : Bool) (n80 : Int) (n81 : Int), u75
    = .agg #[.int .u64 n76, .bool b77, .int .u64 n78, .bool b79, .int .u64 n80, .int .i64 n81] ∧ ∀ (b83 : Nat) (w84 : World), Alloc w74 w84 b83 (.cells #[.int .u64 n76, .bool b77, .int .u64 n78, .bool b79, .int .u64 n80,
    .int .i64 n81] 37) → CallsW Try.prog 14 [.slice a38 l38 c38, .slice (some ⟨b83, 0, none⟩) 1 1] w84 (RetR R fun u86 w85 => ∃ (b87 : Bool), u86 = .bool b87 ∧ ((b87 = true → (((n43 == 1) = true → R (.returned (.bool
    b44)) w85) ∧ ((n43 == 1) = false → R (.returned (.bool false)) w85))) ∧ (b87 = false → R (.returned (.bool false)) w85))))) ∧ (b72 = false → R (.returned (.bool false)) w70)))))) ∧ ((n39 == 0) = false → R (.returned
    (.bool false)) w46))) ∧ ((n34 == 0) = false → R (.returned (.bool false)) w46))) ∧ ((n20 == 0) = false → R (.returned (.bool false)) w46))) ∧ ((n15 == 0) = false → R (.returned (.bool false)) w46))) ∧ (b49 = false → R
    (.returned (.bool false)) w46))) w41)))))))
theorem sx9.ok  {R : Ending → World → Prop} {w : World} (h : sx9  R w) : CallsW Try.prog 9 [] w R :=
  callsW_of mix Try.func9 (by kernel_rfl) (by kernel_rfl) (Eq.mpr (by kernel_rfl : denFn Try.prog { pureTo := [40], sem := [39] } Try.f9 [] R w = sx9  R w) h)


def lay (k b : Int) : CellV := ⟨k, false, 0, true, b, 1⟩
theorem enc1 : encodeB [lay 5 3] = ([1, 5, 2, 3, 0, 0, 0, 0, 0, 0, 0, 1], 0) := by
  simp [encodeB, encGo, lay, cellB, valB, wordB, flagsOf, valOk, u64m, putB_lt]
theorem dec1 : decodeB [1, 5, 2, 3, 0, 0, 0, 0, 0, 0, 0, 1] = ([lay 5 3], 0) := by
  have h1 : numS ([1, 5, 2, 3, 0, 0, 0, 0, 0, 0, 0, 1], 0) = (1, ([5, 2, 3, 0, 0, 0, 0, 0, 0, 0, 1], 0)) := by decide +kernel
  have h2 : numS ([5, 2, 3, 0, 0, 0, 0, 0, 0, 0, 1], 0) = (5, ([2, 3, 0, 0, 0, 0, 0, 0, 0, 1], 0)) := by decide +kernel
  have h3 : flagsS ([2, 3, 0, 0, 0, 0, 0, 0, 0, 1], 0) = (2, ([3, 0, 0, 0, 0, 0, 0, 0, 1], 0)) := by decide +kernel
  have h4 : valueS false ([3, 0, 0, 0, 0, 0, 0, 0, 1], 0) = ((false, 0), ([3, 0, 0, 0, 0, 0, 0, 0, 1], 0)) := by decide +kernel
  have h5 : valueS true ([3, 0, 0, 0, 0, 0, 0, 0, 1], 0) = ((true, 3), ([1], 0)) := by decide +kernel
  have h6 : numS ([1], 0) = (1, ([], 0)) := by decide +kernel
  have h7 : IntKind.i64.wrap 1 = 1 := by decide +kernel
  simp [decodeB, decStart, h1, decGo, cellS, h2, h3, h4, h5, h6, h7, decEnd, lay, Option.any]
theorem put1 : putC [lay 5 3] (lay 2 9) = ([lay 2 9, lay 5 3], 0) := by decide +kernel
theorem drop1 : dropC [lay 2 9, lay 5 3] 5 = ([lay 2 9], 0) := by decide +kernel
theorem find1 : findB [lay 2 9, lay 5 3] 5 = (1, true) := by decide +kernel
theorem str1 : (strB [1, 5, 2, 3, 0, 0, 0, 0, 0, 0, 0, 1] == ({ data := #[1, 5, 2, 3, 0, 0, 0, 0, 0, 0, 0, 1] } : ByteArray)) = true := by decide +kernel
theorem lay_fits : Cells [lay 5 3] := by
  intro x hx; simp at hx; subst hx
  constructor <;> simp [lay, u64m]

theorem awake_ok {w : World} : CallsW Try.prog 9 [] w (Rets fun v w' => v = .bool true ∧ Grew w w') := by
  refine sx9.ok ?_
  unfold sx9
  refine laid_ok.use fun v w1 ⟨hv, hg1⟩ => ?_
  subst hv
  refine ⟨_, _, _, _, _, _, rfl, fun b10 w11 hal11 => ?_⟩
  have hg11 := hg1.trans hal11.grew
  have ho11 := Own.alloc (E := Enc.cell) (l := [lay 5 3]) hal11 (Nat.le_refl _) rfl (by decide)
  refine (Encode_ok (l := [lay 5 3]) ho11.reads lay_fits (by decide)).use fun v w12 ⟨a14, l14, c14, hv, ho12, hg12⟩ => ?_
  subst hv
  rw [enc1] at ho12 ⊢
  have hg12' := hg11.trans hg12
  refine ⟨_, _, _, _, rfl, (Decode_ok (l := [1, 5, 2, 3, 0, 0, 0, 0, 0, 0, 0, 1]) ho12.reads (by intro c hc; simp at hc; omega) (by decide)).use fun v w17 ⟨a19, l19, c19, hv, ho17, hg17⟩ => ?_⟩
  subst hv
  rw [dec1] at ho17 ⊢
  have hg17' := hg12'.trans hg17
  refine ⟨_, _, _, _, rfl, laid_ok.use fun v w22 ⟨hv, hg22⟩ => ?_⟩
  subst hv
  have hg22' := hg17'.trans hg22
  refine ⟨_, _, _, _, _, _, rfl, (Put_cells_ok (l := [lay 5 3]) (x := lay 2 9) (ho17.grew hg22).reads (by decide)).use fun v w31 ⟨a33, l33, c33, hv, ho31, hg31⟩ => ?_⟩
  subst hv
  rw [put1] at ho31 ⊢
  have hg31' := hg22'.trans hg31
  refine ⟨_, _, _, _, rfl, (Drop_ok (l := [lay 2 9, lay 5 3]) ho31.reads (by decide)).use fun v w36 ⟨a38, l38, c38, hv, ho36, hg36⟩ => ?_⟩
  subst hv
  rw [drop1] at ho36 ⊢
  have hg36' := hg31'.trans hg36
  refine ⟨_, _, _, _, rfl, (Find_ok (l := [lay 2 9, lay 5 3]) (ho31.grew hg36).reads (by decide)).use fun v w41 ⟨hv, hg41⟩ => ?_⟩
  subst hv
  rw [find1]
  have hg41' := hg36'.trans hg41
  refine ⟨_, _, rfl, conv_str (e := 5) (l := [1, 5, 2, 3, 0, 0, 0, 0, 0, 0, 0, 1]) (by kernel_rfl) (by kernel_rfl) (by kernel_rfl) ((((((ho12.grew hg17).grew hg22).grew hg31).grew hg36).grew hg41).reads) ⟨_, rfl, _, eqS_str, ?_⟩⟩
  rw [str1]
  refine ⟨fun _ => ⟨fun _ => ⟨fun _ => ⟨fun _ => ⟨fun _ => ?_, fun h => (by cases h)⟩, fun h => (by cases h)⟩, fun h => (by cases h)⟩, fun h => (by cases h)⟩, fun h => (by cases h)⟩
  refine laid_ok.use fun v w50 ⟨hv, hg50⟩ => ?_
  subst hv
  refine ⟨_, _, _, _, _, _, rfl, laid_ok.use fun v w59 ⟨hv, hg59⟩ => ?_⟩
  subst hv
  refine ⟨_, _, _, _, _, _, rfl, fun b68 w69 hal69 => ?_⟩
  have hg69 := hg50.trans (hg59.trans hal69.grew)
  have ho69 := Own.alloc (E := Enc.cell) (l := [lay 2 9, lay 5 3]) hal69 (Nat.le_refl _) rfl (by decide)
  refine (same_ok (l := [lay 2 9, lay 5 3]) (((ho31.grew hg36).grew hg41).grew hg69).reads ho69.reads (by decide)).use fun v w70 ⟨hv, hg70⟩ => ?_
  subst hv
  refine ⟨_, rfl, fun _ => ?_, fun h => by simp at h⟩
  refine laid_ok.use fun v w74 ⟨hv, hg74⟩ => ?_
  subst hv
  refine ⟨_, _, _, _, _, _, rfl, fun b83 w84 hal84 => ?_⟩
  have hg84 := hg74.trans hal84.grew
  have ho84 := Own.alloc (E := Enc.cell) (l := [lay 2 9]) hal84 (Nat.le_refl _) rfl (by decide)
  refine (same_ok (l := [lay 2 9]) ((((ho36.grew hg41).grew hg69).grew hg70).grew hg84).reads ho84.reads (by decide)).use fun v w85 ⟨hv, hg85⟩ => ?_
  subst hv
  refine ⟨_, rfl, fun _ => ⟨fun _ => ⟨_, rfl, rfl, ?_⟩, fun h => (by cases h)⟩, fun h => by simp at h⟩
  exact hg41'.trans (hg69.trans (hg70.trans (hg84.trans hg85)))
end Go.Proofs.Ytnbknhcpjggabaa
