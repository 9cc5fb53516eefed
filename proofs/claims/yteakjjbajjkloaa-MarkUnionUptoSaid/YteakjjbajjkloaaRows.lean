/-
  No cell of these rows narrows 'for every input' (looked for: loops, veiled, ifaces, maps, wideKeys, modest, calm, conditions, laid).
  DERIVED. THE GIVEN ROWS OF THIS SEAT. 8 by the template 'for every input the law returns true; each argument reads behind the call as it read before'; 0 by the template 'total and deterministic' (their statements: YteakjjbajjkloaaTotals.lean).
  GIVEN WITH THE SEED: the statements are not yours to turn. If you find one false, say at which input.
  Laid BY PROGRAM, IN A SANDBOX (cutbox-rows.mjs): the forced cells as the released guide's own fill.sh prints them over the translation 4cc17c9a862899b0… (all of the seat's roots in one cut). By AI agents, Wed Nov 11 2026. No macro, syntax, notation, axiom, sorry.
-/
import Derived.Test.YteakjjbajjkloaaChecked
import GoSem.Claim
import GoSem.ClaimJoined
import GoSem.ClaimMapViews
import Derived.JoinedTies
import Derived.KernelRfl
namespace Go.Proofs.Yteakjjbajjkloaa
/- THE CELL 'sum', in the pinned program and in every row, IS THE sha256 OF THE DUMP (.gsa) THAT YteakjjbajjkloaaProg.lean LOADS. Nothing in Lean hashes anything: it is a label: what it is worth is what the hold of that sum in a sandbox is worth. -/
noncomputable def Try.pinned : Pinned := { name := "yteakjjbajjkloaa", sum := "4cc17c9a862899b07b838d443fa303c73dd27fa84f4c5179b3f7f01ac31fa4c3", checked := Try.checked }
namespace Rows
def none {H : Type} : Left H := { results := [], args := [] }

/-- 'repriselaw12.MarkBytes': WHATEVER THE INPUT: true; the input reads as it did. -/
def markBytesSpec : ChangeSpec := { name := "markBytes", fn := fun _ => fun
  | [d] => { results := [.lit (.bool true)], args := [d] }
  | _ => none }
def markBytesRow : OpenClaim := { program := "yteakjjbajjkloaa", sum := "4cc17c9a862899b07b838d443fa303c73dd27fa84f4c5179b3f7f01ac31fa4c3", func := "reprise/repriselaw12.MarkBytes", spec := "markBytes", recurses := true, apart := false }
def MarkBytesSaid : Prop := markBytesRow.holds Try.pinned (OpenSpec.ofChange markBytesSpec)

/-- ITS FALSE NEIGHBOUR: 'it returns false'. Refute it at one input. -/
def markBytesWrong : ChangeSpec := { name := "markBytes", fn := fun _ => fun
  | [d] => { results := [.lit (.bool false)], args := [d] }
  | _ => none }
def MarkBytesWrongFalsely : Prop := markBytesRow.holds Try.pinned (OpenSpec.ofChange markBytesWrong)

/-- 'repriselaw12.MarkRaw': WHATEVER THE INPUT: true; the input reads as it did. -/
def markRawSpec : ChangeSpec := { name := "markRaw", fn := fun _ => fun
  | [d] => { results := [.lit (.bool true)], args := [d] }
  | _ => none }
def markRawRow : OpenClaim := { program := "yteakjjbajjkloaa", sum := "4cc17c9a862899b07b838d443fa303c73dd27fa84f4c5179b3f7f01ac31fa4c3", func := "reprise/repriselaw12.MarkRaw", spec := "markRaw", recurses := true, apart := false }
def MarkRawSaid : Prop := markRawRow.holds Try.pinned (OpenSpec.ofChange markRawSpec)

/-- ITS FALSE NEIGHBOUR: 'it returns false'. Refute it at one input. -/
def markRawWrong : ChangeSpec := { name := "markRaw", fn := fun _ => fun
  | [d] => { results := [.lit (.bool false)], args := [d] }
  | _ => none }
def MarkRawWrongFalsely : Prop := markRawRow.holds Try.pinned (OpenSpec.ofChange markRawWrong)

/-- 'repriselaw12.MarkJudges': WHATEVER THE INPUT: true; the input reads as it did. -/
def markJudgesSpec : ChangeSpec := { name := "markJudges", fn := fun _ => fun
  | [d1, d2, d3] => { results := [.lit (.bool true)], args := [d1, d2, d3] }
  | _ => none }
def markJudgesRow : OpenClaim := { program := "yteakjjbajjkloaa", sum := "4cc17c9a862899b07b838d443fa303c73dd27fa84f4c5179b3f7f01ac31fa4c3", func := "reprise/repriselaw12.MarkJudges", spec := "markJudges", recurses := true, apart := false }
def MarkJudgesSaid : Prop := markJudgesRow.holds Try.pinned (OpenSpec.ofChange markJudgesSpec)

/-- ITS FALSE NEIGHBOUR: 'it returns false'. Refute it at one input. -/
def markJudgesWrong : ChangeSpec := { name := "markJudges", fn := fun _ => fun
  | [d1, d2, d3] => { results := [.lit (.bool false)], args := [d1, d2, d3] }
  | _ => none }
def MarkJudgesWrongFalsely : Prop := markJudgesRow.holds Try.pinned (OpenSpec.ofChange markJudgesWrong)

/-- 'repriselaw12.MarkKeys': WHATEVER THE INPUT: true; the input reads as it did. -/
def markKeysSpec : ChangeSpec := { name := "markKeys", fn := fun _ => fun
  | [d1, d2, d3] => { results := [.lit (.bool true)], args := [d1, d2, d3] }
  | _ => none }
def markKeysRow : OpenClaim := { program := "yteakjjbajjkloaa", sum := "4cc17c9a862899b07b838d443fa303c73dd27fa84f4c5179b3f7f01ac31fa4c3", func := "reprise/repriselaw12.MarkKeys", spec := "markKeys", recurses := true, apart := false }
def MarkKeysSaid : Prop := markKeysRow.holds Try.pinned (OpenSpec.ofChange markKeysSpec)

/-- ITS FALSE NEIGHBOUR: 'it returns false'. Refute it at one input. -/
def markKeysWrong : ChangeSpec := { name := "markKeys", fn := fun _ => fun
  | [d1, d2, d3] => { results := [.lit (.bool false)], args := [d1, d2, d3] }
  | _ => none }
def MarkKeysWrongFalsely : Prop := markKeysRow.holds Try.pinned (OpenSpec.ofChange markKeysWrong)

/-- 'repriselaw12.MarkForm': WHATEVER THE INPUT: true; the input reads as it did. -/
def markFormSpec : ChangeSpec := { name := "markForm", fn := fun _ => fun
  | [d1, d2] => { results := [.lit (.bool true)], args := [d1, d2] }
  | _ => none }
def markFormRow : OpenClaim := { program := "yteakjjbajjkloaa", sum := "4cc17c9a862899b07b838d443fa303c73dd27fa84f4c5179b3f7f01ac31fa4c3", func := "reprise/repriselaw12.MarkForm", spec := "markForm", recurses := true, apart := false }
def MarkFormSaid : Prop := markFormRow.holds Try.pinned (OpenSpec.ofChange markFormSpec)

/-- ITS FALSE NEIGHBOUR: 'it returns false'. Refute it at one input. -/
def markFormWrong : ChangeSpec := { name := "markForm", fn := fun _ => fun
  | [d1, d2] => { results := [.lit (.bool false)], args := [d1, d2] }
  | _ => none }
def MarkFormWrongFalsely : Prop := markFormRow.holds Try.pinned (OpenSpec.ofChange markFormWrong)

/-- 'repriselaw12.MarkRow': WHATEVER THE INPUT: true; the input reads as it did. -/
def markRowSpec : ChangeSpec := { name := "markRow", fn := fun _ => fun
  | [d1, d2, d3] => { results := [.lit (.bool true)], args := [d1, d2, d3] }
  | _ => none }
def markRowRow : OpenClaim := { program := "yteakjjbajjkloaa", sum := "4cc17c9a862899b07b838d443fa303c73dd27fa84f4c5179b3f7f01ac31fa4c3", func := "reprise/repriselaw12.MarkRow", spec := "markRow", recurses := true, apart := false }
def MarkRowSaid : Prop := markRowRow.holds Try.pinned (OpenSpec.ofChange markRowSpec)

/-- ITS FALSE NEIGHBOUR: 'it returns false'. Refute it at one input. -/
def markRowWrong : ChangeSpec := { name := "markRow", fn := fun _ => fun
  | [d1, d2, d3] => { results := [.lit (.bool false)], args := [d1, d2, d3] }
  | _ => none }
def MarkRowWrongFalsely : Prop := markRowRow.holds Try.pinned (OpenSpec.ofChange markRowWrong)

/-- 'repriselaw12.MarkUnion': WHATEVER THE INPUT: true; the input reads as it did. -/
def markUnionSpec : ChangeSpec := { name := "markUnion", fn := fun _ => fun
  | [d1, d2] => { results := [.lit (.bool true)], args := [d1, d2] }
  | _ => none }
def markUnionRow : OpenClaim := { program := "yteakjjbajjkloaa", sum := "4cc17c9a862899b07b838d443fa303c73dd27fa84f4c5179b3f7f01ac31fa4c3", func := "reprise/repriselaw12.MarkUnion", spec := "markUnion", recurses := true, apart := false }
def MarkUnionSaid : Prop := markUnionRow.holds Try.pinned (OpenSpec.ofChange markUnionSpec)

/-- ITS FALSE NEIGHBOUR: 'it returns false'. Refute it at one input. -/
def markUnionWrong : ChangeSpec := { name := "markUnion", fn := fun _ => fun
  | [d1, d2] => { results := [.lit (.bool false)], args := [d1, d2] }
  | _ => none }
def MarkUnionWrongFalsely : Prop := markUnionRow.holds Try.pinned (OpenSpec.ofChange markUnionWrong)

/-- 'repriselaw12.MarkMemory': WHATEVER THE INPUT: true; the input reads as it did. -/
def markMemorySpec : ChangeSpec := { name := "markMemory", fn := fun _ => fun
  | [d] => { results := [.lit (.bool true)], args := [d] }
  | _ => none }
def markMemoryRow : OpenClaim := { program := "yteakjjbajjkloaa", sum := "4cc17c9a862899b07b838d443fa303c73dd27fa84f4c5179b3f7f01ac31fa4c3", func := "reprise/repriselaw12.MarkMemory", spec := "markMemory", recurses := true, apart := false }
def MarkMemorySaid : Prop := markMemoryRow.holds Try.pinned (OpenSpec.ofChange markMemorySpec)

/-- ITS FALSE NEIGHBOUR: 'it returns false'. Refute it at one input. -/
def markMemoryWrong : ChangeSpec := { name := "markMemory", fn := fun _ => fun
  | [d] => { results := [.lit (.bool false)], args := [d] }
  | _ => none }
def MarkMemoryWrongFalsely : Prop := markMemoryRow.holds Try.pinned (OpenSpec.ofChange markMemoryWrong)

/- THE SECOND FORM. 'bulk': how many values and letters a reading holds, each counted each time it is reached (what is shared counts as often as it is met; a slice's spare places count too). A statement '..UptoSaid' is the law's where the arguments, and the package variables that the reading takes, are together of bulk at most 1048576: NARROWER than '..Said'. Prove '..Said' where nothing that the law and all that it calls make is longer than what came in: it says more and counts as full. Else prove '..UptoSaid'. A law counts once. -/
mutual
def uptoBulk {H : Type} : DataW H → Nat
  | .lit (.string bytes) => bytes.length + 1
  | .lit _ => 1
  | .nil => 1
  | .ptr d => uptoBulk d + 1
  | .slice elems spare => uptoBulkAll elems + uptoBulkAll spare + 1
  | .agg parts => uptoBulkAll parts + 1
  | .iface _ d => uptoBulk d + 1
  | .map entries => uptoBulkEntries entries + 1
  | .held _ => 1
def uptoBulkAll {H : Type} : List (DataW H) → Nat
  | [] => 0
  | d :: r => uptoBulk d + uptoBulkAll r
def uptoBulkEntries {H : Type} : List (Lit × DataW H) → Nat
  | [] => 0
  | x :: r => uptoBulkEntry x + uptoBulkEntries r
def uptoBulkEntry {H : Type} : Lit × DataW H → Nat
  | (.string bytes, d) => bytes.length + uptoBulk d + 1
  | (_, d) => uptoBulk d + 1
 end
def uptoSmall : (H : Type) → List (DataW H) → Bool := fun _ ds => decide (uptoBulkAll ds ≤ 1048576)
def OpenSpec.upto (s : _root_.Go.ChangeSpec) : _root_.Go.OpenSpec := { _root_.Go.OpenSpec.ofChange s with cond := some uptoSmall }

/-- 'repriselaw12.MarkBytes', WHERE WHAT IT READS IS OF BULK AT MOST 1048576: true; the input reads as it did. -/
def markBytesUptoRow : OpenClaim := { program := "yteakjjbajjkloaa", sum := "4cc17c9a862899b07b838d443fa303c73dd27fa84f4c5179b3f7f01ac31fa4c3", func := "reprise/repriselaw12.MarkBytes", spec := "markBytes", recurses := true, apart := false, narrowed := true }
def MarkBytesUptoSaid : Prop := markBytesUptoRow.holds Try.pinned (OpenSpec.upto markBytesSpec)

/-- 'repriselaw12.MarkRaw', WHERE WHAT IT READS IS OF BULK AT MOST 1048576: true; the input reads as it did. -/
def markRawUptoRow : OpenClaim := { program := "yteakjjbajjkloaa", sum := "4cc17c9a862899b07b838d443fa303c73dd27fa84f4c5179b3f7f01ac31fa4c3", func := "reprise/repriselaw12.MarkRaw", spec := "markRaw", recurses := true, apart := false, narrowed := true }
def MarkRawUptoSaid : Prop := markRawUptoRow.holds Try.pinned (OpenSpec.upto markRawSpec)

/-- 'repriselaw12.MarkJudges', WHERE WHAT IT READS IS OF BULK AT MOST 1048576: true; the input reads as it did. -/
def markJudgesUptoRow : OpenClaim := { program := "yteakjjbajjkloaa", sum := "4cc17c9a862899b07b838d443fa303c73dd27fa84f4c5179b3f7f01ac31fa4c3", func := "reprise/repriselaw12.MarkJudges", spec := "markJudges", recurses := true, apart := false, narrowed := true }
def MarkJudgesUptoSaid : Prop := markJudgesUptoRow.holds Try.pinned (OpenSpec.upto markJudgesSpec)

/-- 'repriselaw12.MarkKeys', WHERE WHAT IT READS IS OF BULK AT MOST 1048576: true; the input reads as it did. -/
def markKeysUptoRow : OpenClaim := { program := "yteakjjbajjkloaa", sum := "4cc17c9a862899b07b838d443fa303c73dd27fa84f4c5179b3f7f01ac31fa4c3", func := "reprise/repriselaw12.MarkKeys", spec := "markKeys", recurses := true, apart := false, narrowed := true }
def MarkKeysUptoSaid : Prop := markKeysUptoRow.holds Try.pinned (OpenSpec.upto markKeysSpec)

/-- 'repriselaw12.MarkForm', WHERE WHAT IT READS IS OF BULK AT MOST 1048576: true; the input reads as it did. -/
def markFormUptoRow : OpenClaim := { program := "yteakjjbajjkloaa", sum := "4cc17c9a862899b07b838d443fa303c73dd27fa84f4c5179b3f7f01ac31fa4c3", func := "reprise/repriselaw12.MarkForm", spec := "markForm", recurses := true, apart := false, narrowed := true }
def MarkFormUptoSaid : Prop := markFormUptoRow.holds Try.pinned (OpenSpec.upto markFormSpec)

/-- 'repriselaw12.MarkRow', WHERE WHAT IT READS IS OF BULK AT MOST 1048576: true; the input reads as it did. -/
def markRowUptoRow : OpenClaim := { program := "yteakjjbajjkloaa", sum := "4cc17c9a862899b07b838d443fa303c73dd27fa84f4c5179b3f7f01ac31fa4c3", func := "reprise/repriselaw12.MarkRow", spec := "markRow", recurses := true, apart := false, narrowed := true }
def MarkRowUptoSaid : Prop := markRowUptoRow.holds Try.pinned (OpenSpec.upto markRowSpec)

/-- 'repriselaw12.MarkUnion', WHERE WHAT IT READS IS OF BULK AT MOST 1048576: true; the input reads as it did. -/
def markUnionUptoRow : OpenClaim := { program := "yteakjjbajjkloaa", sum := "4cc17c9a862899b07b838d443fa303c73dd27fa84f4c5179b3f7f01ac31fa4c3", func := "reprise/repriselaw12.MarkUnion", spec := "markUnion", recurses := true, apart := false, narrowed := true }
def MarkUnionUptoSaid : Prop := markUnionUptoRow.holds Try.pinned (OpenSpec.upto markUnionSpec)

/-- 'repriselaw12.MarkMemory', WHERE WHAT IT READS IS OF BULK AT MOST 1048576: true; the input reads as it did. -/
def markMemoryUptoRow : OpenClaim := { program := "yteakjjbajjkloaa", sum := "4cc17c9a862899b07b838d443fa303c73dd27fa84f4c5179b3f7f01ac31fa4c3", func := "reprise/repriselaw12.MarkMemory", spec := "markMemory", recurses := true, apart := false, narrowed := true }
def MarkMemoryUptoSaid : Prop := markMemoryUptoRow.holds Try.pinned (OpenSpec.upto markMemorySpec)

end Rows
end Go.Proofs.Yteakjjbajjkloaa
