/- What the laws' arguments over sources are made of. Conditions: none. -/
import Derived.Test.YtifhpmmdfjmppaaProg
import Derived.Test.YtifhpmmdfjmppaaSrcL
import Derived.Test.YtifhpmmdfjmppaaSxX
namespace Go.Proofs.Ytifhpmmdfjmppaa
open Go.Sx
set_option maxRecDepth 100000
set_option linter.unusedVariables false
set_option linter.unusedSimpArgs false
theorem op3_kinds : kinds2 Try.prog 8 51 = some [.int .i64, .int .i64, .float .f64] := by kernel_rfl
theorem item_kinds : kinds2 Try.prog 8 36 = some [.int .i64, .int .u64, .float .f64] := by kernel_rfl
section
variable {H : Type} {enc : TypeId × Value → H}
theorem op3_of {S : TypeId → Value → Prop} (cs : List Value) (h : AllK2 S [.int .i64, .int .i64, .float .f64] cs) : ∃ x : OpV, cs = Enc.op3.f x ∧ x.Fits := by
  obtain ⟨hl, h⟩ := h
  match cs, hl with
  | [c0, c1, c2], _ =>
    obtain ⟨_, e0, n0, rfl, w0⟩ := h 0 _ rfl
    obtain ⟨_, e1, n1, rfl, w1⟩ := h 1 _ rfl
    obtain ⟨_, e2, n2, rfl, w2⟩ := h 2 _ rfl
    simp at e0 e1 e2; subst e0; subst e1; subst e2
    refine ⟨⟨n0, n1, n2⟩, rfl, ?_⟩
    simp [Lit.wf, IntKind.min, IntKind.max, IntKind.signed, IntKind.bits] at w0 w1 w2
    refine ⟨⟨?_, ?_⟩, ⟨?_, ?_⟩, ?_⟩ <;> simp only <;> omega
theorem item_of {S : TypeId → Value → Prop} (cs : List Value) (h : AllK2 S [.int .i64, .int .u64, .float .f64] cs) : ∃ x : ItemV, cs = Enc.item.f x ∧ x.Fits := by
  obtain ⟨hl, h⟩ := h
  match cs, hl with
  | [c0, c1, c2], _ =>
    obtain ⟨_, e0, n0, rfl, w0⟩ := h 0 _ rfl
    obtain ⟨_, e1, n1, rfl, w1⟩ := h 1 _ rfl
    obtain ⟨_, e2, n2, rfl, w2⟩ := h 2 _ rfl
    simp at e0 e1 e2; subst e0; subst e1; subst e2
    refine ⟨⟨n0, ⟨n1, n2⟩⟩, rfl, ?_⟩
    simp [Lit.wf, IntKind.min, IntKind.max, IntKind.signed, IntKind.bits] at w0 w1 w2
    refine ⟨⟨?_, ?_⟩, ⟨?_, ?_⟩, ?_⟩ <;> simp only [u64m] <;> omega
end
end Go.Proofs.Ytifhpmmdfjmppaa
