/-
  No cell of these rows narrows 'for every input' (looked for: loops, veiled, ifaces, maps, wideKeys, modest, calm, conditions, laid).
  DERIVED. THE GIVEN ROWS OF THIS SEAT. 6 by the template 'for every input the law returns true; each argument reads behind the call as it read before'; 0 by the template 'total and deterministic' (their statements: YtnbknhcpjggabaaTotals.lean).
  GIVEN WITH THE SEED: the statements are not yours to turn. If you find one false, say at which input.
  Laid BY PROGRAM, IN A SANDBOX (cutbox-rows.mjs): the forced cells as the released guide's own fill.sh prints them over the translation ae2e66582e951994… (all of the seat's roots in one cut). By AI agents, Wed Nov 11 2026. No macro, syntax, notation, axiom, sorry.
-/
import Derived.Test.YtnbknhcpjggabaaChecked
import GoSem.Claim
import GoSem.ClaimJoined
import GoSem.ClaimMapViews
import Derived.JoinedTies
import Derived.KernelRfl
namespace Go.Proofs.Ytnbknhcpjggabaa
/- THE CELL 'sum', in the pinned program and in every row, IS THE sha256 OF THE DUMP (.gsa) THAT YtnbknhcpjggabaaProg.lean LOADS. Nothing in Lean hashes anything: it is a label: what it is worth is what the hold of that sum in a sandbox is worth. -/
noncomputable def Try.pinned : Pinned := { name := "ytnbknhcpjggabaa", sum := "ae2e66582e95199479807ea6535a5440ffae2b274d327e9ee75f1ee9ada6ae82", checked := Try.checked }
namespace Rows
def none {H : Type} : Left H := { results := [], args := [] }

/-- 'repriselaw11.BucketBytes': WHATEVER THE INPUT: true; the input reads as it did. -/
def bucketBytesSpec : ChangeSpec := { name := "bucketBytes", fn := fun _ => fun
  | [d] => { results := [.lit (.bool true)], args := [d] }
  | _ => none }
def bucketBytesRow : OpenClaim := { program := "ytnbknhcpjggabaa", sum := "ae2e66582e95199479807ea6535a5440ffae2b274d327e9ee75f1ee9ada6ae82", func := "reprise/repriselaw11.BucketBytes", spec := "bucketBytes", inPlace := ["slices.overlaps[reprise/api.Cell]"], unfollowed := true, recurses := true, apart := false }
def BucketBytesSaid : Prop := bucketBytesRow.holds Try.pinned (OpenSpec.ofChange bucketBytesSpec)

/-- ITS FALSE NEIGHBOUR: 'it returns false'. Refute it at one input. -/
def bucketBytesWrong : ChangeSpec := { name := "bucketBytes", fn := fun _ => fun
  | [d] => { results := [.lit (.bool false)], args := [d] }
  | _ => none }
def BucketBytesWrongFalsely : Prop := bucketBytesRow.holds Try.pinned (OpenSpec.ofChange bucketBytesWrong)

/-- 'repriselaw11.BucketRaw': WHATEVER THE INPUT: true; the input reads as it did. -/
def bucketRawSpec : ChangeSpec := { name := "bucketRaw", fn := fun _ => fun
  | [d] => { results := [.lit (.bool true)], args := [d] }
  | _ => none }
def bucketRawRow : OpenClaim := { program := "ytnbknhcpjggabaa", sum := "ae2e66582e95199479807ea6535a5440ffae2b274d327e9ee75f1ee9ada6ae82", func := "reprise/repriselaw11.BucketRaw", spec := "bucketRaw", inPlace := ["slices.overlaps[reprise/api.Cell]"], unfollowed := true, recurses := true, apart := false }
def BucketRawSaid : Prop := bucketRawRow.holds Try.pinned (OpenSpec.ofChange bucketRawSpec)

/-- ITS FALSE NEIGHBOUR: 'it returns false'. Refute it at one input. -/
def bucketRawWrong : ChangeSpec := { name := "bucketRaw", fn := fun _ => fun
  | [d] => { results := [.lit (.bool false)], args := [d] }
  | _ => none }
def BucketRawWrongFalsely : Prop := bucketRawRow.holds Try.pinned (OpenSpec.ofChange bucketRawWrong)

/-- 'repriselaw11.BucketActs': WHATEVER THE INPUT: true; the input reads as it did. -/
def bucketActsSpec : ChangeSpec := { name := "bucketActs", fn := fun _ => fun
  | [d1, d2] => { results := [.lit (.bool true)], args := [d1, d2] }
  | _ => none }
def bucketActsRow : OpenClaim := { program := "ytnbknhcpjggabaa", sum := "ae2e66582e95199479807ea6535a5440ffae2b274d327e9ee75f1ee9ada6ae82", func := "reprise/repriselaw11.BucketActs", spec := "bucketActs", inPlace := ["slices.overlaps[reprise/api.Cell]"], unfollowed := true, recurses := true, apart := false }
def BucketActsSaid : Prop := bucketActsRow.holds Try.pinned (OpenSpec.ofChange bucketActsSpec)

/-- ITS FALSE NEIGHBOUR: 'it returns false'. Refute it at one input. -/
def bucketActsWrong : ChangeSpec := { name := "bucketActs", fn := fun _ => fun
  | [d1, d2] => { results := [.lit (.bool false)], args := [d1, d2] }
  | _ => none }
def BucketActsWrongFalsely : Prop := bucketActsRow.holds Try.pinned (OpenSpec.ofChange bucketActsWrong)

/-- 'repriselaw11.BucketForm': WHATEVER THE INPUT: true; the input reads as it did. -/
def bucketFormSpec : ChangeSpec := { name := "bucketForm", fn := fun _ => fun
  | [d1, d2] => { results := [.lit (.bool true)], args := [d1, d2] }
  | _ => none }
def bucketFormRow : OpenClaim := { program := "ytnbknhcpjggabaa", sum := "ae2e66582e95199479807ea6535a5440ffae2b274d327e9ee75f1ee9ada6ae82", func := "reprise/repriselaw11.BucketForm", spec := "bucketForm", inPlace := ["slices.overlaps[reprise/api.Cell]"], unfollowed := true, recurses := true, apart := false }
def BucketFormSaid : Prop := bucketFormRow.holds Try.pinned (OpenSpec.ofChange bucketFormSpec)

/-- ITS FALSE NEIGHBOUR: 'it returns false'. Refute it at one input. -/
def bucketFormWrong : ChangeSpec := { name := "bucketForm", fn := fun _ => fun
  | [d1, d2] => { results := [.lit (.bool false)], args := [d1, d2] }
  | _ => none }
def BucketFormWrongFalsely : Prop := bucketFormRow.holds Try.pinned (OpenSpec.ofChange bucketFormWrong)

/-- 'repriselaw11.BucketBook': WHATEVER THE INPUT: true; the input reads as it did. -/
def bucketBookSpec : ChangeSpec := { name := "bucketBook", fn := fun _ => fun
  | [d] => { results := [.lit (.bool true)], args := [d] }
  | _ => none }
def bucketBookRow : OpenClaim := { program := "ytnbknhcpjggabaa", sum := "ae2e66582e95199479807ea6535a5440ffae2b274d327e9ee75f1ee9ada6ae82", func := "reprise/repriselaw11.BucketBook", spec := "bucketBook", inPlace := ["slices.overlaps[reprise/api.Cell]"], unfollowed := true, recurses := true, apart := false }
def BucketBookSaid : Prop := bucketBookRow.holds Try.pinned (OpenSpec.ofChange bucketBookSpec)

/-- ITS FALSE NEIGHBOUR: 'it returns false'. Refute it at one input. -/
def bucketBookWrong : ChangeSpec := { name := "bucketBook", fn := fun _ => fun
  | [d] => { results := [.lit (.bool false)], args := [d] }
  | _ => none }
def BucketBookWrongFalsely : Prop := bucketBookRow.holds Try.pinned (OpenSpec.ofChange bucketBookWrong)

/-- 'repriselaw11.BucketMemory': WHATEVER THE INPUT: true; the input reads as it did. -/
def bucketMemorySpec : ChangeSpec := { name := "bucketMemory", fn := fun _ => fun
  | [d1, d2] => { results := [.lit (.bool true)], args := [d1, d2] }
  | _ => none }
def bucketMemoryRow : OpenClaim := { program := "ytnbknhcpjggabaa", sum := "ae2e66582e95199479807ea6535a5440ffae2b274d327e9ee75f1ee9ada6ae82", func := "reprise/repriselaw11.BucketMemory", spec := "bucketMemory", inPlace := ["slices.overlaps[reprise/api.Cell]"], unfollowed := true, recurses := true, apart := false }
def BucketMemorySaid : Prop := bucketMemoryRow.holds Try.pinned (OpenSpec.ofChange bucketMemorySpec)

/-- ITS FALSE NEIGHBOUR: 'it returns false'. Refute it at one input. -/
def bucketMemoryWrong : ChangeSpec := { name := "bucketMemory", fn := fun _ => fun
  | [d1, d2] => { results := [.lit (.bool false)], args := [d1, d2] }
  | _ => none }
def BucketMemoryWrongFalsely : Prop := bucketMemoryRow.holds Try.pinned (OpenSpec.ofChange bucketMemoryWrong)

/- THE SECOND FORM. 'bulk': how many values and letters a reading holds, each counted each time it is reached (what is shared counts as often as it is met; a slice's spare places count too). A statement '..UptoSaid' is the law's where the arguments, and the package variables that the reading takes, are together of bulk at most 1048576: NARROWER than '..Said'. Prove '..Said' where nothing that the law and all that it calls make is longer than what came in: it says more and counts as full. Else prove '..UptoSaid'. A law counts once. -/
mutual
def uptoBulk {H : Type} : DataW H → Nat
  | .lit (.string bytes) => bytes.length + 1
  | .lit _ => 1
  | .nil => 1
  | .ptr d => uptoBulk d + 1
  | .slice elems spare => uptoBulkAll elems + uptoBulkAll spare + 1
  | .agg parts => uptoBulkAll parts + 1
  | .iface _ d => uptoBulk d + 1
  | .map entries => uptoBulkEntries entries + 1
  | .held _ => 1
def uptoBulkAll {H : Type} : List (DataW H) → Nat
  | [] => 0
  | d :: r => uptoBulk d + uptoBulkAll r
def uptoBulkEntries {H : Type} : List (Lit × DataW H) → Nat
  | [] => 0
  | x :: r => uptoBulkEntry x + uptoBulkEntries r
def uptoBulkEntry {H : Type} : Lit × DataW H → Nat
  | (.string bytes, d) => bytes.length + uptoBulk d + 1
  | (_, d) => uptoBulk d + 1
 end
def uptoSmall : (H : Type) → List (DataW H) → Bool := fun _ ds => decide (uptoBulkAll ds ≤ 1048576)
def OpenSpec.upto (s : _root_.Go.ChangeSpec) : _root_.Go.OpenSpec := { _root_.Go.OpenSpec.ofChange s with cond := some uptoSmall }

/-- 'repriselaw11.BucketBytes', WHERE WHAT IT READS IS OF BULK AT MOST 1048576: true; the input reads as it did. -/
def bucketBytesUptoRow : OpenClaim := { program := "ytnbknhcpjggabaa", sum := "ae2e66582e95199479807ea6535a5440ffae2b274d327e9ee75f1ee9ada6ae82", func := "reprise/repriselaw11.BucketBytes", spec := "bucketBytes", inPlace := ["slices.overlaps[reprise/api.Cell]"], unfollowed := true, recurses := true, apart := false, narrowed := true }
def BucketBytesUptoSaid : Prop := bucketBytesUptoRow.holds Try.pinned (OpenSpec.upto bucketBytesSpec)

/-- 'repriselaw11.BucketRaw', WHERE WHAT IT READS IS OF BULK AT MOST 1048576: true; the input reads as it did. -/
def bucketRawUptoRow : OpenClaim := { program := "ytnbknhcpjggabaa", sum := "ae2e66582e95199479807ea6535a5440ffae2b274d327e9ee75f1ee9ada6ae82", func := "reprise/repriselaw11.BucketRaw", spec := "bucketRaw", inPlace := ["slices.overlaps[reprise/api.Cell]"], unfollowed := true, recurses := true, apart := false, narrowed := true }
def BucketRawUptoSaid : Prop := bucketRawUptoRow.holds Try.pinned (OpenSpec.upto bucketRawSpec)

/-- 'repriselaw11.BucketActs', WHERE WHAT IT READS IS OF BULK AT MOST 1048576: true; the input reads as it did. -/
def bucketActsUptoRow : OpenClaim := { program := "ytnbknhcpjggabaa", sum := "ae2e66582e95199479807ea6535a5440ffae2b274d327e9ee75f1ee9ada6ae82", func := "reprise/repriselaw11.BucketActs", spec := "bucketActs", inPlace := ["slices.overlaps[reprise/api.Cell]"], unfollowed := true, recurses := true, apart := false, narrowed := true }
def BucketActsUptoSaid : Prop := bucketActsUptoRow.holds Try.pinned (OpenSpec.upto bucketActsSpec)

/-- 'repriselaw11.BucketForm', WHERE WHAT IT READS IS OF BULK AT MOST 1048576: true; the input reads as it did. -/
def bucketFormUptoRow : OpenClaim := { program := "ytnbknhcpjggabaa", sum := "ae2e66582e95199479807ea6535a5440ffae2b274d327e9ee75f1ee9ada6ae82", func := "reprise/repriselaw11.BucketForm", spec := "bucketForm", inPlace := ["slices.overlaps[reprise/api.Cell]"], unfollowed := true, recurses := true, apart := false, narrowed := true }
def BucketFormUptoSaid : Prop := bucketFormUptoRow.holds Try.pinned (OpenSpec.upto bucketFormSpec)

/-- 'repriselaw11.BucketBook', WHERE WHAT IT READS IS OF BULK AT MOST 1048576: true; the input reads as it did. -/
def bucketBookUptoRow : OpenClaim := { program := "ytnbknhcpjggabaa", sum := "ae2e66582e95199479807ea6535a5440ffae2b274d327e9ee75f1ee9ada6ae82", func := "reprise/repriselaw11.BucketBook", spec := "bucketBook", inPlace := ["slices.overlaps[reprise/api.Cell]"], unfollowed := true, recurses := true, apart := false, narrowed := true }
def BucketBookUptoSaid : Prop := bucketBookUptoRow.holds Try.pinned (OpenSpec.upto bucketBookSpec)

/-- 'repriselaw11.BucketMemory', WHERE WHAT IT READS IS OF BULK AT MOST 1048576: true; the input reads as it did. -/
def bucketMemoryUptoRow : OpenClaim := { program := "ytnbknhcpjggabaa", sum := "ae2e66582e95199479807ea6535a5440ffae2b274d327e9ee75f1ee9ada6ae82", func := "reprise/repriselaw11.BucketMemory", spec := "bucketMemory", inPlace := ["slices.overlaps[reprise/api.Cell]"], unfollowed := true, recurses := true, apart := false, narrowed := true }
def BucketMemoryUptoSaid : Prop := bucketMemoryUptoRow.holds Try.pinned (OpenSpec.upto bucketMemorySpec)

end Rows
end Go.Proofs.Ytnbknhcpjggabaa
