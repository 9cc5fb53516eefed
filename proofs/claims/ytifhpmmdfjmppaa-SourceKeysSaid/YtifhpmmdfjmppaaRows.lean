/-
  No cell of these rows narrows 'for every input' (looked for: loops, veiled, ifaces, maps, wideKeys, modest, calm, conditions, laid).
  DERIVED. THE GIVEN ROWS OF THIS SEAT. 4 by the template 'for every input the law returns true; each argument reads behind the call as it read before'; 0 by the template 'total and deterministic' (their statements: YtifhpmmdfjmppaaTotals.lean).
  GIVEN WITH THE SEED: the statements are not yours to turn. If you find one false, say at which input.
  Laid BY PROGRAM, IN A SANDBOX (cutbox-rows.mjs): the forced cells as the released guide's own fill.sh prints them over the translation 83b691dca0004737… (all of the seat's roots in one cut). By AI agents, Wed Nov 11 2026. No macro, syntax, notation, axiom, sorry.
-/
import Derived.Test.YtifhpmmdfjmppaaChecked
import GoSem.Claim
import GoSem.ClaimJoined
import GoSem.ClaimMapViews
import Derived.JoinedTies
import Derived.KernelRfl
namespace Go.Proofs.Ytifhpmmdfjmppaa
/- THE CELL 'sum', in the pinned program and in every row, IS THE sha256 OF THE DUMP (.gsa) THAT YtifhpmmdfjmppaaProg.lean LOADS. Nothing in Lean hashes anything: it is a label: what it is worth is what the hold of that sum in a sandbox is worth. -/
noncomputable def Try.pinned : Pinned := { name := "ytifhpmmdfjmppaa", sum := "83b691dca00047375de33af44aa0368c7f2f0db54aa207935e5090c91874419d", checked := Try.checked }
namespace Rows
def none {H : Type} : Left H := { results := [], args := [] }

/-- 'repriselaw06.SourceRefuses': WHATEVER THE INPUT: true; the input reads as it did. -/
def sourceRefusesSpec : ChangeSpec := { name := "sourceRefuses", fn := fun _ => fun
  | [d1, d2] => { results := [.lit (.bool true)], args := [d1, d2] }
  | _ => none }
def sourceRefusesRow : OpenClaim := { program := "ytifhpmmdfjmppaa", sum := "83b691dca00047375de33af44aa0368c7f2f0db54aa207935e5090c91874419d", func := "reprise/repriselaw06.SourceRefuses", spec := "sourceRefuses", inPlace := ["math.Float64frombits", "math.Float64bits", "math.archFloor", "math.archTrunc"], unfollowed := true, recurses := true, apart := false }
def SourceRefusesSaid : Prop := sourceRefusesRow.holds Try.pinned (OpenSpec.ofChange sourceRefusesSpec)

/-- ITS FALSE NEIGHBOUR: 'it returns false'. Refute it at one input. -/
def sourceRefusesWrong : ChangeSpec := { name := "sourceRefuses", fn := fun _ => fun
  | [d1, d2] => { results := [.lit (.bool false)], args := [d1, d2] }
  | _ => none }
def SourceRefusesWrongFalsely : Prop := sourceRefusesRow.holds Try.pinned (OpenSpec.ofChange sourceRefusesWrong)

/-- 'repriselaw06.SourceKeys': WHATEVER THE INPUT: true; the input reads as it did. -/
def sourceKeysSpec : ChangeSpec := { name := "sourceKeys", fn := fun _ => fun
  | [d1, d2] => { results := [.lit (.bool true)], args := [d1, d2] }
  | _ => none }
def sourceKeysRow : OpenClaim := { program := "ytifhpmmdfjmppaa", sum := "83b691dca00047375de33af44aa0368c7f2f0db54aa207935e5090c91874419d", func := "reprise/repriselaw06.SourceKeys", spec := "sourceKeys", inPlace := ["math.Float64frombits", "math.Float64bits", "math.archFloor", "math.archTrunc"], unfollowed := true, recurses := true, apart := false }
def SourceKeysSaid : Prop := sourceKeysRow.holds Try.pinned (OpenSpec.ofChange sourceKeysSpec)

/-- ITS FALSE NEIGHBOUR: 'it returns false'. Refute it at one input. -/
def sourceKeysWrong : ChangeSpec := { name := "sourceKeys", fn := fun _ => fun
  | [d1, d2] => { results := [.lit (.bool false)], args := [d1, d2] }
  | _ => none }
def SourceKeysWrongFalsely : Prop := sourceKeysRow.holds Try.pinned (OpenSpec.ofChange sourceKeysWrong)

/-- 'repriselaw06.SourceMemory': WHATEVER THE INPUT: true; the input reads as it did. -/
def sourceMemorySpec : ChangeSpec := { name := "sourceMemory", fn := fun _ => fun
  | [d1, d2] => { results := [.lit (.bool true)], args := [d1, d2] }
  | _ => none }
def sourceMemoryRow : OpenClaim := { program := "ytifhpmmdfjmppaa", sum := "83b691dca00047375de33af44aa0368c7f2f0db54aa207935e5090c91874419d", func := "reprise/repriselaw06.SourceMemory", spec := "sourceMemory", inPlace := ["math.Float64frombits", "math.Float64bits", "math.archFloor", "math.archTrunc"], unfollowed := true, recurses := true, apart := false }
def SourceMemorySaid : Prop := sourceMemoryRow.holds Try.pinned (OpenSpec.ofChange sourceMemorySpec)

/-- ITS FALSE NEIGHBOUR: 'it returns false'. Refute it at one input. -/
def sourceMemoryWrong : ChangeSpec := { name := "sourceMemory", fn := fun _ => fun
  | [d1, d2] => { results := [.lit (.bool false)], args := [d1, d2] }
  | _ => none }
def SourceMemoryWrongFalsely : Prop := sourceMemoryRow.holds Try.pinned (OpenSpec.ofChange sourceMemoryWrong)

/-- 'repriselaw06.SourceReads': WHATEVER THE INPUT: true; the input reads as it did. -/
def sourceReadsSpec : ChangeSpec := { name := "sourceReads", fn := fun _ => fun
  | [d1, d2, d3] => { results := [.lit (.bool true)], args := [d1, d2, d3] }
  | _ => none }
def sourceReadsRow : OpenClaim := { program := "ytifhpmmdfjmppaa", sum := "83b691dca00047375de33af44aa0368c7f2f0db54aa207935e5090c91874419d", func := "reprise/repriselaw06.SourceReads", spec := "sourceReads", inPlace := ["math.Float64frombits", "math.Float64bits", "math.archFloor", "math.archTrunc"], unfollowed := true, recurses := true, apart := false }
def SourceReadsSaid : Prop := sourceReadsRow.holds Try.pinned (OpenSpec.ofChange sourceReadsSpec)

/-- ITS FALSE NEIGHBOUR: 'it returns false'. Refute it at one input. -/
def sourceReadsWrong : ChangeSpec := { name := "sourceReads", fn := fun _ => fun
  | [d1, d2, d3] => { results := [.lit (.bool false)], args := [d1, d2, d3] }
  | _ => none }
def SourceReadsWrongFalsely : Prop := sourceReadsRow.holds Try.pinned (OpenSpec.ofChange sourceReadsWrong)

/- THE SECOND FORM. 'bulk': how many values and letters a reading holds, each counted each time it is reached (what is shared counts as often as it is met; a slice's spare places count too). A statement '..UptoSaid' is the law's where the arguments, and the package variables that the reading takes, are together of bulk at most 1048576: NARROWER than '..Said'. Prove '..Said' where nothing that the law and all that it calls make is longer than what came in: it says more and counts as full. Else prove '..UptoSaid'. A law counts once. -/
mutual
def uptoBulk {H : Type} : DataW H → Nat
  | .lit (.string bytes) => bytes.length + 1
  | .lit _ => 1
  | .nil => 1
  | .ptr d => uptoBulk d + 1
  | .slice elems spare => uptoBulkAll elems + uptoBulkAll spare + 1
  | .agg parts => uptoBulkAll parts + 1
  | .iface _ d => uptoBulk d + 1
  | .map entries => uptoBulkEntries entries + 1
  | .held _ => 1
def uptoBulkAll {H : Type} : List (DataW H) → Nat
  | [] => 0
  | d :: r => uptoBulk d + uptoBulkAll r
def uptoBulkEntries {H : Type} : List (Lit × DataW H) → Nat
  | [] => 0
  | x :: r => uptoBulkEntry x + uptoBulkEntries r
def uptoBulkEntry {H : Type} : Lit × DataW H → Nat
  | (.string bytes, d) => bytes.length + uptoBulk d + 1
  | (_, d) => uptoBulk d + 1
 end
def uptoSmall : (H : Type) → List (DataW H) → Bool := fun _ ds => decide (uptoBulkAll ds ≤ 1048576)
def OpenSpec.upto (s : _root_.Go.ChangeSpec) : _root_.Go.OpenSpec := { _root_.Go.OpenSpec.ofChange s with cond := some uptoSmall }

/-- 'repriselaw06.SourceRefuses', WHERE WHAT IT READS IS OF BULK AT MOST 1048576: true; the input reads as it did. -/
def sourceRefusesUptoRow : OpenClaim := { program := "ytifhpmmdfjmppaa", sum := "83b691dca00047375de33af44aa0368c7f2f0db54aa207935e5090c91874419d", func := "reprise/repriselaw06.SourceRefuses", spec := "sourceRefuses", inPlace := ["math.Float64frombits", "math.Float64bits", "math.archFloor", "math.archTrunc"], unfollowed := true, recurses := true, apart := false, narrowed := true }
def SourceRefusesUptoSaid : Prop := sourceRefusesUptoRow.holds Try.pinned (OpenSpec.upto sourceRefusesSpec)

/-- 'repriselaw06.SourceKeys', WHERE WHAT IT READS IS OF BULK AT MOST 1048576: true; the input reads as it did. -/
def sourceKeysUptoRow : OpenClaim := { program := "ytifhpmmdfjmppaa", sum := "83b691dca00047375de33af44aa0368c7f2f0db54aa207935e5090c91874419d", func := "reprise/repriselaw06.SourceKeys", spec := "sourceKeys", inPlace := ["math.Float64frombits", "math.Float64bits", "math.archFloor", "math.archTrunc"], unfollowed := true, recurses := true, apart := false, narrowed := true }
def SourceKeysUptoSaid : Prop := sourceKeysUptoRow.holds Try.pinned (OpenSpec.upto sourceKeysSpec)

/-- 'repriselaw06.SourceMemory', WHERE WHAT IT READS IS OF BULK AT MOST 1048576: true; the input reads as it did. -/
def sourceMemoryUptoRow : OpenClaim := { program := "ytifhpmmdfjmppaa", sum := "83b691dca00047375de33af44aa0368c7f2f0db54aa207935e5090c91874419d", func := "reprise/repriselaw06.SourceMemory", spec := "sourceMemory", inPlace := ["math.Float64frombits", "math.Float64bits", "math.archFloor", "math.archTrunc"], unfollowed := true, recurses := true, apart := false, narrowed := true }
def SourceMemoryUptoSaid : Prop := sourceMemoryUptoRow.holds Try.pinned (OpenSpec.upto sourceMemorySpec)

/-- 'repriselaw06.SourceReads', WHERE WHAT IT READS IS OF BULK AT MOST 1048576: true; the input reads as it did. -/
def sourceReadsUptoRow : OpenClaim := { program := "ytifhpmmdfjmppaa", sum := "83b691dca00047375de33af44aa0368c7f2f0db54aa207935e5090c91874419d", func := "reprise/repriselaw06.SourceReads", spec := "sourceReads", inPlace := ["math.Float64frombits", "math.Float64bits", "math.archFloor", "math.archTrunc"], unfollowed := true, recurses := true, apart := false, narrowed := true }
def SourceReadsUptoSaid : Prop := sourceReadsUptoRow.holds Try.pinned (OpenSpec.upto sourceReadsSpec)

end Rows
end Go.Proofs.Ytifhpmmdfjmppaa
