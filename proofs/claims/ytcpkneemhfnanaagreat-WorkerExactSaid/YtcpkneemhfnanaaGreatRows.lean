/-
  No cell of these rows narrows 'for every input' (looked for: loops, veiled, ifaces, maps, wideKeys, modest, calm, conditions, laid).
  DERIVED. THE GIVEN ROWS OF THIS SEAT. 5 by the template 'for every input the law returns true; each argument reads behind the call as it read before'; 0 by the template 'total and deterministic' (their statements: YtcpkneemhfnanaaGreatTotals.lean).
  GIVEN WITH THE SEED: the statements are not yours to turn. If you find one false, say at which input.
  Laid BY PROGRAM, IN A SANDBOX (cutbox-rows.mjs): the forced cells as the released guide's own fill.sh prints them over the translation c75cfb224ba804c3… (all of the seat's roots in one cut). By AI agents, Wed Nov 11 2026. No macro, syntax, notation, axiom, sorry.
-/
import Derived.Test.YtcpkneemhfnanaaGreatChecked
import GoSem.Claim
import GoSem.ClaimJoined
import GoSem.ClaimMapViews
import Derived.JoinedTies
import Derived.KernelRfl
namespace Go.Proofs.YtcpkneemhfnanaaGreat
/- THE CELL 'sum', in the pinned program and in every row, IS THE sha256 OF THE DUMP (.gsa) THAT YtcpkneemhfnanaaGreatProg.lean LOADS. Nothing in Lean hashes anything: it is a label: what it is worth is what the hold of that sum in a sandbox is worth. -/
noncomputable def Tryz.pinned : Pinned := { name := "ytcpkneemhfnanaagreat", sum := "c75cfb224ba804c3b00d8a22a67d13c535b251f6f2ededf0feff0f7863c14eba", checked := Tryz.checked }
namespace Rows
def none {H : Type} : Left H := { results := [], args := [] }

/-- 'repriselaw17.WorkerExact': WHATEVER THE INPUT: true; the input reads as it did. -/
def workerExactSpec : ChangeSpec := { name := "workerExact", fn := fun _ => fun
  | [d1, d2, d3] => { results := [.lit (.bool true)], args := [d1, d2, d3] }
  | _ => none }
def workerExactRow : OpenClaim := { program := "ytcpkneemhfnanaagreat", sum := "c75cfb224ba804c3b00d8a22a67d13c535b251f6f2ededf0feff0f7863c14eba", func := "reprise/repriselaw17.WorkerExact", spec := "workerExact", inPlace := ["math.Float64frombits", "math.Float64bits", "math.archFloor", "math.archTrunc"], unfollowed := true, recurses := true, apart := false }
def WorkerExactSaid : Prop := workerExactRow.holds Tryz.pinned (OpenSpec.ofChange workerExactSpec)

/-- ITS FALSE NEIGHBOUR: 'it returns false'. Refute it at one input. -/
def workerExactWrong : ChangeSpec := { name := "workerExact", fn := fun _ => fun
  | [d1, d2, d3] => { results := [.lit (.bool false)], args := [d1, d2, d3] }
  | _ => none }
def WorkerExactWrongFalsely : Prop := workerExactRow.holds Tryz.pinned (OpenSpec.ofChange workerExactWrong)

/-- 'repriselaw17.WorkerDone': WHATEVER THE INPUT: true; the input reads as it did. -/
def workerDoneSpec : ChangeSpec := { name := "workerDone", fn := fun _ => fun
  | [d1, d2, d3] => { results := [.lit (.bool true)], args := [d1, d2, d3] }
  | _ => none }
def workerDoneRow : OpenClaim := { program := "ytcpkneemhfnanaagreat", sum := "c75cfb224ba804c3b00d8a22a67d13c535b251f6f2ededf0feff0f7863c14eba", func := "reprise/repriselaw17.WorkerDone", spec := "workerDone", inPlace := ["math.Float64frombits", "math.Float64bits", "math.archFloor", "math.archTrunc"], unfollowed := true, recurses := true, apart := false }
def WorkerDoneSaid : Prop := workerDoneRow.holds Tryz.pinned (OpenSpec.ofChange workerDoneSpec)

/-- ITS FALSE NEIGHBOUR: 'it returns false'. Refute it at one input. -/
def workerDoneWrong : ChangeSpec := { name := "workerDone", fn := fun _ => fun
  | [d1, d2, d3] => { results := [.lit (.bool false)], args := [d1, d2, d3] }
  | _ => none }
def WorkerDoneWrongFalsely : Prop := workerDoneRow.holds Tryz.pinned (OpenSpec.ofChange workerDoneWrong)

/-- 'repriselaw17.WorkerLate': WHATEVER THE INPUT: true; the input reads as it did. -/
def workerLateSpec : ChangeSpec := { name := "workerLate", fn := fun _ => fun
  | [d1, d2, d3] => { results := [.lit (.bool true)], args := [d1, d2, d3] }
  | _ => none }
def workerLateRow : OpenClaim := { program := "ytcpkneemhfnanaagreat", sum := "c75cfb224ba804c3b00d8a22a67d13c535b251f6f2ededf0feff0f7863c14eba", func := "reprise/repriselaw17.WorkerLate", spec := "workerLate", inPlace := ["math.Float64frombits", "math.Float64bits", "math.archFloor", "math.archTrunc"], unfollowed := true, recurses := true, apart := false }
def WorkerLateSaid : Prop := workerLateRow.holds Tryz.pinned (OpenSpec.ofChange workerLateSpec)

/-- ITS FALSE NEIGHBOUR: 'it returns false'. Refute it at one input. -/
def workerLateWrong : ChangeSpec := { name := "workerLate", fn := fun _ => fun
  | [d1, d2, d3] => { results := [.lit (.bool false)], args := [d1, d2, d3] }
  | _ => none }
def WorkerLateWrongFalsely : Prop := workerLateRow.holds Tryz.pinned (OpenSpec.ofChange workerLateWrong)

/-- 'repriselaw17.WorkerMemory': WHATEVER THE INPUT: true; the input reads as it did. -/
def workerMemorySpec : ChangeSpec := { name := "workerMemory", fn := fun _ => fun
  | [d] => { results := [.lit (.bool true)], args := [d] }
  | _ => none }
def workerMemoryRow : OpenClaim := { program := "ytcpkneemhfnanaagreat", sum := "c75cfb224ba804c3b00d8a22a67d13c535b251f6f2ededf0feff0f7863c14eba", func := "reprise/repriselaw17.WorkerMemory", spec := "workerMemory", inPlace := ["math.Float64frombits", "math.Float64bits", "math.archFloor", "math.archTrunc"], unfollowed := true, recurses := true, apart := false }
def WorkerMemorySaid : Prop := workerMemoryRow.holds Tryz.pinned (OpenSpec.ofChange workerMemorySpec)

/-- ITS FALSE NEIGHBOUR: 'it returns false'. Refute it at one input. -/
def workerMemoryWrong : ChangeSpec := { name := "workerMemory", fn := fun _ => fun
  | [d] => { results := [.lit (.bool false)], args := [d] }
  | _ => none }
def WorkerMemoryWrongFalsely : Prop := workerMemoryRow.holds Tryz.pinned (OpenSpec.ofChange workerMemoryWrong)

/-- 'repriselaw17.WorkerTables': WHATEVER THE INPUT: true; the input reads as it did. -/
def workerTablesSpec : ChangeSpec := { name := "workerTables", fn := fun _ => fun
  | [d1, d2] => { results := [.lit (.bool true)], args := [d1, d2] }
  | _ => none }
def workerTablesRow : OpenClaim := { program := "ytcpkneemhfnanaagreat", sum := "c75cfb224ba804c3b00d8a22a67d13c535b251f6f2ededf0feff0f7863c14eba", func := "reprise/repriselaw17.WorkerTables", spec := "workerTables", inPlace := ["math.Float64frombits", "math.Float64bits", "math.archFloor", "math.archTrunc"], unfollowed := true, recurses := true, apart := false }
def WorkerTablesSaid : Prop := workerTablesRow.holds Tryz.pinned (OpenSpec.ofChange workerTablesSpec)

/-- ITS FALSE NEIGHBOUR: 'it returns false'. Refute it at one input. -/
def workerTablesWrong : ChangeSpec := { name := "workerTables", fn := fun _ => fun
  | [d1, d2] => { results := [.lit (.bool false)], args := [d1, d2] }
  | _ => none }
def WorkerTablesWrongFalsely : Prop := workerTablesRow.holds Tryz.pinned (OpenSpec.ofChange workerTablesWrong)

/- THE SECOND FORM. 'bulk': how many values and letters a reading holds, each counted each time it is reached (what is shared counts as often as it is met; a slice's spare places count too). A statement '..UptoSaid' is the law's where the arguments, and the package variables that the reading takes, are together of bulk at most 1048576: NARROWER than '..Said'. Prove '..Said' where nothing that the law and all that it calls make is longer than what came in: it says more and counts as full. Else prove '..UptoSaid'. A law counts once. -/
mutual
def uptoBulk {H : Type} : DataW H → Nat
  | .lit (.string bytes) => bytes.length + 1
  | .lit _ => 1
  | .nil => 1
  | .ptr d => uptoBulk d + 1
  | .slice elems spare => uptoBulkAll elems + uptoBulkAll spare + 1
  | .agg parts => uptoBulkAll parts + 1
  | .iface _ d => uptoBulk d + 1
  | .map entries => uptoBulkEntries entries + 1
  | .held _ => 1
def uptoBulkAll {H : Type} : List (DataW H) → Nat
  | [] => 0
  | d :: r => uptoBulk d + uptoBulkAll r
def uptoBulkEntries {H : Type} : List (Lit × DataW H) → Nat
  | [] => 0
  | x :: r => uptoBulkEntry x + uptoBulkEntries r
def uptoBulkEntry {H : Type} : Lit × DataW H → Nat
  | (.string bytes, d) => bytes.length + uptoBulk d + 1
  | (_, d) => uptoBulk d + 1
 end
def uptoSmall : (H : Type) → List (DataW H) → Bool := fun _ ds => decide (uptoBulkAll ds ≤ 1048576)
def OpenSpec.upto (s : _root_.Go.ChangeSpec) : _root_.Go.OpenSpec := { _root_.Go.OpenSpec.ofChange s with cond := some uptoSmall }

/-- 'repriselaw17.WorkerExact', WHERE WHAT IT READS IS OF BULK AT MOST 1048576: true; the input reads as it did. -/
def workerExactUptoRow : OpenClaim := { program := "ytcpkneemhfnanaagreat", sum := "c75cfb224ba804c3b00d8a22a67d13c535b251f6f2ededf0feff0f7863c14eba", func := "reprise/repriselaw17.WorkerExact", spec := "workerExact", inPlace := ["math.Float64frombits", "math.Float64bits", "math.archFloor", "math.archTrunc"], unfollowed := true, recurses := true, apart := false, narrowed := true }
def WorkerExactUptoSaid : Prop := workerExactUptoRow.holds Tryz.pinned (OpenSpec.upto workerExactSpec)

/-- 'repriselaw17.WorkerDone', WHERE WHAT IT READS IS OF BULK AT MOST 1048576: true; the input reads as it did. -/
def workerDoneUptoRow : OpenClaim := { program := "ytcpkneemhfnanaagreat", sum := "c75cfb224ba804c3b00d8a22a67d13c535b251f6f2ededf0feff0f7863c14eba", func := "reprise/repriselaw17.WorkerDone", spec := "workerDone", inPlace := ["math.Float64frombits", "math.Float64bits", "math.archFloor", "math.archTrunc"], unfollowed := true, recurses := true, apart := false, narrowed := true }
def WorkerDoneUptoSaid : Prop := workerDoneUptoRow.holds Tryz.pinned (OpenSpec.upto workerDoneSpec)

/-- 'repriselaw17.WorkerLate', WHERE WHAT IT READS IS OF BULK AT MOST 1048576: true; the input reads as it did. -/
def workerLateUptoRow : OpenClaim := { program := "ytcpkneemhfnanaagreat", sum := "c75cfb224ba804c3b00d8a22a67d13c535b251f6f2ededf0feff0f7863c14eba", func := "reprise/repriselaw17.WorkerLate", spec := "workerLate", inPlace := ["math.Float64frombits", "math.Float64bits", "math.archFloor", "math.archTrunc"], unfollowed := true, recurses := true, apart := false, narrowed := true }
def WorkerLateUptoSaid : Prop := workerLateUptoRow.holds Tryz.pinned (OpenSpec.upto workerLateSpec)

/-- 'repriselaw17.WorkerMemory', WHERE WHAT IT READS IS OF BULK AT MOST 1048576: true; the input reads as it did. -/
def workerMemoryUptoRow : OpenClaim := { program := "ytcpkneemhfnanaagreat", sum := "c75cfb224ba804c3b00d8a22a67d13c535b251f6f2ededf0feff0f7863c14eba", func := "reprise/repriselaw17.WorkerMemory", spec := "workerMemory", inPlace := ["math.Float64frombits", "math.Float64bits", "math.archFloor", "math.archTrunc"], unfollowed := true, recurses := true, apart := false, narrowed := true }
def WorkerMemoryUptoSaid : Prop := workerMemoryUptoRow.holds Tryz.pinned (OpenSpec.upto workerMemorySpec)

/-- 'repriselaw17.WorkerTables', WHERE WHAT IT READS IS OF BULK AT MOST 1048576: true; the input reads as it did. -/
def workerTablesUptoRow : OpenClaim := { program := "ytcpkneemhfnanaagreat", sum := "c75cfb224ba804c3b00d8a22a67d13c535b251f6f2ededf0feff0f7863c14eba", func := "reprise/repriselaw17.WorkerTables", spec := "workerTables", inPlace := ["math.Float64frombits", "math.Float64bits", "math.archFloor", "math.archTrunc"], unfollowed := true, recurses := true, apart := false, narrowed := true }
def WorkerTablesUptoSaid : Prop := workerTablesUptoRow.holds Tryz.pinned (OpenSpec.upto workerTablesSpec)

end Rows
end Go.Proofs.YtcpkneemhfnanaaGreat
