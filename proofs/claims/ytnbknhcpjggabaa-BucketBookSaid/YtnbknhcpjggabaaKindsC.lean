/- What a cell and a byte are made of. Conditions: none. -/
import Derived.Test.YtnbknhcpjggabaaProg
import Derived.Test.YtnbknhcpjggabaaRef3
import Derived.Test.YtnbknhcpjggabaaSxQ
namespace Go.Proofs.Ytnbknhcpjggabaa
open Go.Sx
set_option maxRecDepth 100000
set_option linter.unusedVariables false
set_option linter.unusedSimpArgs false
theorem cell_kinds : kindsOf Try.prog 8 37 = some [.int .u64, .bool, .int .u64, .bool, .int .u64, .int .i64] := by kernel_rfl
theorem cell_of_kinds (cs : List Value) (h : AllK [.int .u64, .bool, .int .u64, .bool, .int .u64, .int .i64] cs) : ∃ x : CellV, cs = Enc.cell.f x ∧ x.Fits := by
  obtain ⟨hl, h⟩ := h
  match cs, hl with
  | [c0, c1, c2, c3, c4, c5], _ =>
    obtain ⟨_, e0, n0, rfl, w0⟩ := h 0 _ rfl
    obtain ⟨_, e1, b1, rfl⟩ := h 1 _ rfl
    obtain ⟨_, e2, n2, rfl, w2⟩ := h 2 _ rfl
    obtain ⟨_, e3, b3, rfl⟩ := h 3 _ rfl
    obtain ⟨_, e4, n4, rfl, w4⟩ := h 4 _ rfl
    obtain ⟨_, e5, n5, rfl, w5⟩ := h 5 _ rfl
    simp at e0 e1 e2 e3 e4 e5
    subst e0; subst e1; subst e2; subst e3; subst e4; subst e5
    refine ⟨⟨n0, b1, n2, b3, n4, n5⟩, rfl, ?_⟩
    simp [Lit.wf, IntKind.min, IntKind.max, IntKind.signed, IntKind.bits] at w0 w2 w4 w5
    constructor <;> simp [u64m] <;> omega

theorem byte_of_kinds (cs : List Value) (h : AllK [.int .u8] cs) : ∃ x : Int, cs = (Enc.int .u8).f x ∧ (0 ≤ x ∧ x < 256) := by
  obtain ⟨hl, h⟩ := h
  match cs, hl with
  | [c0], _ =>
    obtain ⟨_, e0, n0, rfl, w0⟩ := h 0 _ rfl
    simp at e0; subst e0
    refine ⟨n0, rfl, ?_⟩
    simp [Lit.wf, IntKind.min, IntKind.max, IntKind.signed, IntKind.bits] at w0
    omega
def encU8 : Enc Int := Enc.int .u8
theorem byte_kinds : kindsOf Try.prog 2 5 = some [.int .u8] := by kernel_rfl
theorem u8s : Try.prog.underlying 24 = some (.slice 5) := by kernel_rfl

end Go.Proofs.Ytnbknhcpjggabaa
