/-
  No cell of these rows narrows 'for every input' (looked for: loops, veiled, ifaces, maps, wideKeys, modest, calm, conditions, laid).
  DERIVED. THE GIVEN ROWS OF THIS SEAT. 4 by the template 'for every input the law returns true; each argument reads behind the call as it read before'; 0 by the template 'total and deterministic' (their statements: YtlkfkcgnlnbdeaaTotals.lean).
  GIVEN WITH THE SEED: the statements are not yours to turn. If you find one false, say at which input.
  Laid BY PROGRAM, IN A SANDBOX (cutbox-rows.mjs): the forced cells as the released guide's own fill.sh prints them over the translation 71d920689404a31e… (all of the seat's roots in one cut). By AI agents, Wed Nov 11 2026. No macro, syntax, notation, axiom, sorry.
-/
import Derived.Test.YtlkfkcgnlnbdeaaChecked
import GoSem.Claim
import GoSem.ClaimJoined
import GoSem.ClaimMapViews
import Derived.JoinedTies
import Derived.KernelRfl
namespace Go.Proofs.Ytlkfkcgnlnbdeaa
/- THE CELL 'sum', in the pinned program and in every row, IS THE sha256 OF THE DUMP (.gsa) THAT YtlkfkcgnlnbdeaaProg.lean LOADS. Nothing in Lean hashes anything: it is a label: what it is worth is what the hold of that sum in a sandbox is worth. -/
noncomputable def Try.pinned : Pinned := { name := "ytlkfkcgnlnbdeaa", sum := "71d920689404a31eb0a294f06677fdeea27b6cfd65ed668a7e627fd58363368c", checked := Try.checked }
namespace Rows
def none {H : Type} : Left H := { results := [], args := [] }

/-- 'repriselaw16.NetExact': WHATEVER THE INPUT: true; the input reads as it did. -/
def netExactSpec : ChangeSpec := { name := "netExact", fn := fun _ => fun
  | [d1, d2] => { results := [.lit (.bool true)], args := [d1, d2] }
  | _ => none }
def netExactRow : OpenClaim := { program := "ytlkfkcgnlnbdeaa", sum := "71d920689404a31eb0a294f06677fdeea27b6cfd65ed668a7e627fd58363368c", func := "reprise/repriselaw16.NetExact", spec := "netExact", unfollowed := true, recurses := true, apart := false }
def NetExactSaid : Prop := netExactRow.holds Try.pinned (OpenSpec.ofChange netExactSpec)

/-- ITS FALSE NEIGHBOUR: 'it returns false'. Refute it at one input. -/
def netExactWrong : ChangeSpec := { name := "netExact", fn := fun _ => fun
  | [d1, d2] => { results := [.lit (.bool false)], args := [d1, d2] }
  | _ => none }
def NetExactWrongFalsely : Prop := netExactRow.holds Try.pinned (OpenSpec.ofChange netExactWrong)

/-- 'repriselaw16.NetBag': WHATEVER THE INPUT: true; the input reads as it did. -/
def netBagSpec : ChangeSpec := { name := "netBag", fn := fun _ => fun
  | [d1, d2] => { results := [.lit (.bool true)], args := [d1, d2] }
  | _ => none }
def netBagRow : OpenClaim := { program := "ytlkfkcgnlnbdeaa", sum := "71d920689404a31eb0a294f06677fdeea27b6cfd65ed668a7e627fd58363368c", func := "reprise/repriselaw16.NetBag", spec := "netBag", unfollowed := true, recurses := true, apart := false }
def NetBagSaid : Prop := netBagRow.holds Try.pinned (OpenSpec.ofChange netBagSpec)

/-- ITS FALSE NEIGHBOUR: 'it returns false'. Refute it at one input. -/
def netBagWrong : ChangeSpec := { name := "netBag", fn := fun _ => fun
  | [d1, d2] => { results := [.lit (.bool false)], args := [d1, d2] }
  | _ => none }
def NetBagWrongFalsely : Prop := netBagRow.holds Try.pinned (OpenSpec.ofChange netBagWrong)

/-- 'repriselaw16.NetMemory': WHATEVER THE INPUT: true; the input reads as it did. -/
def netMemorySpec : ChangeSpec := { name := "netMemory", fn := fun _ => fun
  | [d] => { results := [.lit (.bool true)], args := [d] }
  | _ => none }
def netMemoryRow : OpenClaim := { program := "ytlkfkcgnlnbdeaa", sum := "71d920689404a31eb0a294f06677fdeea27b6cfd65ed668a7e627fd58363368c", func := "reprise/repriselaw16.NetMemory", spec := "netMemory", unfollowed := true, recurses := true, apart := false }
def NetMemorySaid : Prop := netMemoryRow.holds Try.pinned (OpenSpec.ofChange netMemorySpec)

/-- ITS FALSE NEIGHBOUR: 'it returns false'. Refute it at one input. -/
def netMemoryWrong : ChangeSpec := { name := "netMemory", fn := fun _ => fun
  | [d] => { results := [.lit (.bool false)], args := [d] }
  | _ => none }
def NetMemoryWrongFalsely : Prop := netMemoryRow.holds Try.pinned (OpenSpec.ofChange netMemoryWrong)

/-- 'repriselaw16.NetApart': WHATEVER THE INPUT: true; the input reads as it did. -/
def netApartSpec : ChangeSpec := { name := "netApart", fn := fun _ => fun
  | [d] => { results := [.lit (.bool true)], args := [d] }
  | _ => none }
def netApartRow : OpenClaim := { program := "ytlkfkcgnlnbdeaa", sum := "71d920689404a31eb0a294f06677fdeea27b6cfd65ed668a7e627fd58363368c", func := "reprise/repriselaw16.NetApart", spec := "netApart", unfollowed := true, recurses := true, apart := false }
def NetApartSaid : Prop := netApartRow.holds Try.pinned (OpenSpec.ofChange netApartSpec)

/-- ITS FALSE NEIGHBOUR: 'it returns false'. Refute it at one input. -/
def netApartWrong : ChangeSpec := { name := "netApart", fn := fun _ => fun
  | [d] => { results := [.lit (.bool false)], args := [d] }
  | _ => none }
def NetApartWrongFalsely : Prop := netApartRow.holds Try.pinned (OpenSpec.ofChange netApartWrong)

/- THE SECOND FORM. 'bulk': how many values and letters a reading holds, each counted each time it is reached (what is shared counts as often as it is met; a slice's spare places count too). A statement '..UptoSaid' is the law's where the arguments, and the package variables that the reading takes, are together of bulk at most 1048576: NARROWER than '..Said'. Prove '..Said' where nothing that the law and all that it calls make is longer than what came in: it says more and counts as full. Else prove '..UptoSaid'. A law counts once. -/
mutual
def uptoBulk {H : Type} : DataW H → Nat
  | .lit (.string bytes) => bytes.length + 1
  | .lit _ => 1
  | .nil => 1
  | .ptr d => uptoBulk d + 1
  | .slice elems spare => uptoBulkAll elems + uptoBulkAll spare + 1
  | .agg parts => uptoBulkAll parts + 1
  | .iface _ d => uptoBulk d + 1
  | .map entries => uptoBulkEntries entries + 1
  | .held _ => 1
def uptoBulkAll {H : Type} : List (DataW H) → Nat
  | [] => 0
  | d :: r => uptoBulk d + uptoBulkAll r
def uptoBulkEntries {H : Type} : List (Lit × DataW H) → Nat
  | [] => 0
  | x :: r => uptoBulkEntry x + uptoBulkEntries r
def uptoBulkEntry {H : Type} : Lit × DataW H → Nat
  | (.string bytes, d) => bytes.length + uptoBulk d + 1
  | (_, d) => uptoBulk d + 1
 end
def uptoSmall : (H : Type) → List (DataW H) → Bool := fun _ ds => decide (uptoBulkAll ds ≤ 1048576)
def OpenSpec.upto (s : _root_.Go.ChangeSpec) : _root_.Go.OpenSpec := { _root_.Go.OpenSpec.ofChange s with cond := some uptoSmall }

/-- 'repriselaw16.NetExact', WHERE WHAT IT READS IS OF BULK AT MOST 1048576: true; the input reads as it did. -/
def netExactUptoRow : OpenClaim := { program := "ytlkfkcgnlnbdeaa", sum := "71d920689404a31eb0a294f06677fdeea27b6cfd65ed668a7e627fd58363368c", func := "reprise/repriselaw16.NetExact", spec := "netExact", unfollowed := true, recurses := true, apart := false, narrowed := true }
def NetExactUptoSaid : Prop := netExactUptoRow.holds Try.pinned (OpenSpec.upto netExactSpec)

/-- 'repriselaw16.NetBag', WHERE WHAT IT READS IS OF BULK AT MOST 1048576: true; the input reads as it did. -/
def netBagUptoRow : OpenClaim := { program := "ytlkfkcgnlnbdeaa", sum := "71d920689404a31eb0a294f06677fdeea27b6cfd65ed668a7e627fd58363368c", func := "reprise/repriselaw16.NetBag", spec := "netBag", unfollowed := true, recurses := true, apart := false, narrowed := true }
def NetBagUptoSaid : Prop := netBagUptoRow.holds Try.pinned (OpenSpec.upto netBagSpec)

/-- 'repriselaw16.NetMemory', WHERE WHAT IT READS IS OF BULK AT MOST 1048576: true; the input reads as it did. -/
def netMemoryUptoRow : OpenClaim := { program := "ytlkfkcgnlnbdeaa", sum := "71d920689404a31eb0a294f06677fdeea27b6cfd65ed668a7e627fd58363368c", func := "reprise/repriselaw16.NetMemory", spec := "netMemory", unfollowed := true, recurses := true, apart := false, narrowed := true }
def NetMemoryUptoSaid : Prop := netMemoryUptoRow.holds Try.pinned (OpenSpec.upto netMemorySpec)

/-- 'repriselaw16.NetApart', WHERE WHAT IT READS IS OF BULK AT MOST 1048576: true; the input reads as it did. -/
def netApartUptoRow : OpenClaim := { program := "ytlkfkcgnlnbdeaa", sum := "71d920689404a31eb0a294f06677fdeea27b6cfd65ed668a7e627fd58363368c", func := "reprise/repriselaw16.NetApart", spec := "netApart", unfollowed := true, recurses := true, apart := false, narrowed := true }
def NetApartUptoSaid : Prop := netApartUptoRow.holds Try.pinned (OpenSpec.upto netApartSpec)

end Rows
end Go.Proofs.Ytlkfkcgnlnbdeaa
