/- What a key, a byte and a mark are made of. Conditions: none. -/
import Derived.Test.YteakjjbajjkloaaProg
import Derived.Test.YteakjjbajjkloaaMarkS
import Derived.Test.YteakjjbajjkloaaSxX
namespace Go.Proofs.Yteakjjbajjkloaa
open Go.Sx
set_option maxRecDepth 100000
set_option linter.unusedVariables false
set_option linter.unusedSimpArgs false

theorem low8 {w : World} {a : Option Addr} {n c : Nat} {l : List Int} (h : Reads w (Enc.int .u8) (a, n, c) l) : ∀ x, Blk a x → l ≠ [] → x < w.heap.size := by
  rintro x ⟨d, hd, rfl⟩ hne
  have hn : n = l.length := h.2.1
  have hp : 0 < l.length := List.length_pos_iff.2 hne
  obtain ⟨d', y, hd', -, hc⟩ := h.at0 (k := 0) (by omega)
  rw [hd] at hd'; cases hd'
  exact World.block_lt_of_cell? w _ (show w.cell? d = some (.int .u8 y) by simpa [Enc.int, CellsAt, Addr.add_zero'] using hc.1)

def enc8 : Enc Int := Enc.int .u8
def enc64 : Enc Int := Enc.int .u64
theorem u8_kinds : kinds2 Try.prog 2 5 = some [.int .u8] := by kernel_rfl
theorem u64_kinds : kinds2 Try.prog 2 38 = some [.int .u64] := by kernel_rfl
section
variable {H : Type} {enc : TypeId × Value → H}
theorem u8_of {S : TypeId → Value → Prop} (cs : List Value) (h : AllK2 S [.int .u8] cs) : ∃ x : Int, cs = (Enc.int .u8).f x ∧ (0 ≤ x ∧ x < 256) := by
  obtain ⟨hl, h⟩ := h
  match cs, hl with
  | [c0], _ =>
    obtain ⟨_, e0, n0, rfl, w0⟩ := h 0 _ rfl
    simp at e0; subst e0
    refine ⟨n0, rfl, ?_⟩
    simp [Lit.wf, IntKind.min, IntKind.max, IntKind.signed, IntKind.bits] at w0
    omega
theorem u64_of {S : TypeId → Value → Prop} (cs : List Value) (h : AllK2 S [.int .u64] cs) : ∃ x : Int, cs = (Enc.int .u64).f x ∧ (0 ≤ x ∧ x < u64m) := by
  obtain ⟨hl, h⟩ := h
  match cs, hl with
  | [c0], _ =>
    obtain ⟨_, e0, n0, rfl, w0⟩ := h 0 _ rfl
    simp at e0; subst e0
    refine ⟨n0, rfl, ?_⟩
    simp [Lit.wf, IntKind.min, IntKind.max, IntKind.signed, IntKind.bits] at w0
    simp only [u64m]; omega
/-- a mark as it lies -/
structure MarkRaw where
  b : Int
  a : Int
  s : Option Addr × Nat × Nat
def Enc.markR : Enc MarkRaw := ⟨3, fun x => [.int .i64 x.b, .int .i64 x.a, .slice x.s.1 x.s.2.1 x.s.2.2], fun _ => rfl, by decide, fun x v h => by simp at h; rcases h with rfl | rfl | rfl <;> rfl⟩
theorem mark_kinds : kinds2 Try.prog 8 24 = some [.int .i64, .int .i64, .sub 22] := by kernel_rfl
def MarkIs (w : World) (x : MarkRaw) : Prop := ∃ m : MarkV, x.b = m.batch ∧ x.a = m.attempt ∧ m.Fits ∧ Reads w (Enc.int .u64) x.s m.keys ∧ m.keys.length ≤ maxLen ∧ m.keys.length * 8 ≤ 140737488351232
theorem mark_of {w : World} {spare : Nat → Bool} {held : Bool} (cs : List Value) (h : AllK2 (Sub enc Try.prog w spare held) [.int .i64, .int .i64, .sub 22] cs) : ∃ x : MarkRaw, cs = Enc.markR.f x ∧ MarkIs w x := by
  obtain ⟨hl, h⟩ := h
  match cs, hl with
  | [c0, c1, c2], _ =>
    obtain ⟨_, e0, n0, rfl, w0⟩ := h 0 _ rfl
    obtain ⟨_, e1, n1, rfl, w1⟩ := h 1 _ rfl
    obtain ⟨v, e2, hS⟩ := h 2 _ rfl
    simp at e0 e1 e2
    subst e0; subst e1; subst e2
    obtain ⟨a, n, c, l, rfl, hr, hok, hlen, hb⟩ := open_sub (show Sub enc Try.prog w spare held 22 c2 from hS) (by kernel_rfl) u64_kinds (by kernel_rfl) (B := 8) (by kernel_rfl) (E := Enc.int .u64) rfl u64_of
    refine ⟨⟨n0, n1, a, n, c⟩, rfl, ⟨n0, n1, l⟩, rfl, rfl, ?_, hr, hlen, hb⟩
    simp [Lit.wf, IntKind.min, IntKind.max, IntKind.signed, IntKind.bits] at w0 w1
    refine ⟨?_, ?_, ?_, ?_, hok⟩ <;> simp only <;> omega
theorem openMark {ts : List TypeId} {ds : List (DataW H)} (hz : (DataW.weightsEach Try.prog ts ds).all (· ≤ reachBytes) = true) {j : Nat} (htj : ts[j]? = some 24) {dt : DataW H} (hdj : ds[j]? = some dt) {w : World} {spare : Nat → Bool} {held : Bool} {v : Value} {ps : List MemPlace}
    {r : Reach} {b0 : Nat} (hval : Value.okWide Try.prog w r b0 24 v) (h : DataW.Trod enc Try.prog w 0 spare held 24 v dt ps) :
    ∃ m a n c, v = mval m a n c ∧ Reads w (Enc.int .u64) (a, n, c) m.keys ∧ m.Fits ∧ m.keys.length ≤ maxLen ∧ m.keys.length * 8 ≤ 140737488351232 := by
  obtain ⟨⟨b, a, s⟩, rfl, m, rfl, rfl, hf, hr, hl, hb⟩ := arg_struct hz htj hdj (by kernel_rfl) mark_kinds hval h (E := Enc.markR) mark_of
  exact ⟨m, s.1, s.2.1, s.2.2, rfl, hr, hf, hl, hb⟩
end
end Go.Proofs.Yteakjjbajjkloaa
