/-
  DERIVED. GIVEN WITH THE SEED: THE CARDS: each row of YtbmmaibbiahkkaaGreatDoorRows.lean that lists a variable, with what it lists TIED to the program's text (the seventh form; the later family's looks); each row that meets fmt, with fmt's text TOLD by the authors' own Lean function (tested against real Go, not proved from fmt's source: count such statements apart). THE CARD IS WHAT COUNTS. Prove the row's statement (the work); the ties are given (YtbmmaibbiahkkaaGreatDoorTie.lean); close each card by the builder's one call (the guide's Derived/Test/ToyasCard.lean, 'card_holds'). Laid BY PROGRAM, IN A SANDBOX (cutbox-door.mjs). By AI agents, Wed Nov 11 2026. No macro, syntax, notation, axiom, sorry.
-/
import Derived.Test.YtbmmaibbiahkkaaGreatDoorRows
import GoSem.ClaimSeven
namespace Go.Proofs.YtbmmaibbiahkkaaGreatDoor
namespace Rows

/-- THE TIED CARD OF 'repriselaw21.ScriptReads'. -/
def scriptReadsCard : Claim7 := { stood := { row := scriptReadsRow, standIns := [], harness := (true, "b64c46686f643c001f31f6c1b533c0d7c0642b988dd47f138c5c01a8a4cb7604"), looks := true }, kinds := [], alts := [], laidByText := true, laidKinds := [.data, .data, .data, .data, .sentinel, .sentinel, .pinned], laidTests := true, laidLooks := .later }
def ScriptReadsCardSaid : Prop := Claim7.holds Tryz.pinned (.plain (OpenSpec.ofChange scriptReadsSpec)) scriptReadsCard

/-- THE TIED CARD OF 'repriselaw21.ScriptPrints'. -/
def scriptPrintsCard : Claim7 := { stood := { row := scriptPrintsRow, standIns := [], harness := (true, "b64c46686f643c001f31f6c1b533c0d7c0642b988dd47f138c5c01a8a4cb7604"), looks := true }, kinds := [], alts := [], laidByText := true, laidKinds := [.data, .data, .data, .data, .sentinel, .sentinel, .pinned], laidTests := true, laidLooks := .later }
def ScriptPrintsCardSaid : Prop := Claim7.holds Tryz.pinned (.plain (OpenSpec.ofChange scriptPrintsSpec)) scriptPrintsCard

/-- THE TIED CARD OF 'repriselaw21.ScriptBack'. -/
def scriptBackCard : Claim7 := { stood := { row := scriptBackRow, standIns := [], harness := (true, "b64c46686f643c001f31f6c1b533c0d7c0642b988dd47f138c5c01a8a4cb7604"), looks := true }, kinds := [], alts := [], laidByText := true, laidKinds := [.data, .data, .data, .data, .sentinel, .sentinel, .pinned], laidTests := true, laidLooks := .later }
def ScriptBackCardSaid : Prop := Claim7.holds Tryz.pinned (.plain (OpenSpec.ofChange scriptBackSpec)) scriptBackCard

/-- THE TIED CARD OF 'repriselaw21.ScriptForth'. -/
def scriptForthCard : Claim7 := { stood := { row := scriptForthRow, standIns := [], harness := (true, "b64c46686f643c001f31f6c1b533c0d7c0642b988dd47f138c5c01a8a4cb7604"), looks := true }, kinds := [], alts := [], laidByText := true, laidKinds := [.data, .data, .data, .data, .sentinel, .sentinel, .pinned], laidTests := true, laidLooks := .later }
def ScriptForthCardSaid : Prop := Claim7.holds Tryz.pinned (.plain (OpenSpec.ofChange scriptForthSpec)) scriptForthCard

/-- THE TIED CARD OF 'repriselaw21.ScriptSkips'. -/
def scriptSkipsCard : Claim7 := { stood := { row := scriptSkipsRow, standIns := [], harness := (true, "b64c46686f643c001f31f6c1b533c0d7c0642b988dd47f138c5c01a8a4cb7604"), looks := true }, kinds := [], alts := [], laidByText := true, laidKinds := [.data, .data, .data, .data, .sentinel, .sentinel, .pinned], laidTests := true, laidLooks := .later }
def ScriptSkipsCardSaid : Prop := Claim7.holds Tryz.pinned (.plain (OpenSpec.ofChange scriptSkipsSpec)) scriptSkipsCard

/-- THE TIED CARD OF 'repriselaw21.ScriptMany'. -/
def scriptManyCard : Claim7 := { stood := { row := scriptManyRow, standIns := [], harness := (true, "b64c46686f643c001f31f6c1b533c0d7c0642b988dd47f138c5c01a8a4cb7604"), looks := true }, kinds := [], alts := [], laidByText := true, laidKinds := [.data, .data, .data, .data, .sentinel, .sentinel, .pinned], laidTests := true, laidLooks := .later }
def ScriptManyCardSaid : Prop := Claim7.holds Tryz.pinned (.plain (OpenSpec.ofChange scriptManySpec)) scriptManyCard

/-- THE TIED CARD OF 'repriselaw21.ScriptMemory'. -/
def scriptMemoryCard : Claim7 := { stood := { row := scriptMemoryRow, standIns := [], harness := (true, "b64c46686f643c001f31f6c1b533c0d7c0642b988dd47f138c5c01a8a4cb7604"), looks := true }, kinds := [], alts := [], laidByText := true, laidKinds := [.data, .data, .data, .data, .sentinel, .sentinel, .pinned], laidTests := true, laidLooks := .later }
def ScriptMemoryCardSaid : Prop := Claim7.holds Tryz.pinned (.plain (OpenSpec.ofChange scriptMemorySpec)) scriptMemoryCard

/-- THE SECOND FORM's CARD OF 'repriselaw21.ScriptReads'. -/
def scriptReadsUptoCard : Claim7 := { stood := { row := scriptReadsUptoRow, standIns := [], harness := (true, "b64c46686f643c001f31f6c1b533c0d7c0642b988dd47f138c5c01a8a4cb7604"), looks := true }, kinds := [], alts := [], laidByText := true, laidKinds := [.data, .data, .data, .data, .sentinel, .sentinel, .pinned], laidTests := true, laidLooks := .later }
def ScriptReadsUptoCardSaid : Prop := Claim7.holds Tryz.pinned (.plain (OpenSpec.upto scriptReadsSpec)) scriptReadsUptoCard

/-- THE SECOND FORM's CARD OF 'repriselaw21.ScriptPrints'. -/
def scriptPrintsUptoCard : Claim7 := { stood := { row := scriptPrintsUptoRow, standIns := [], harness := (true, "b64c46686f643c001f31f6c1b533c0d7c0642b988dd47f138c5c01a8a4cb7604"), looks := true }, kinds := [], alts := [], laidByText := true, laidKinds := [.data, .data, .data, .data, .sentinel, .sentinel, .pinned], laidTests := true, laidLooks := .later }
def ScriptPrintsUptoCardSaid : Prop := Claim7.holds Tryz.pinned (.plain (OpenSpec.upto scriptPrintsSpec)) scriptPrintsUptoCard

/-- THE SECOND FORM's CARD OF 'repriselaw21.ScriptBack'. -/
def scriptBackUptoCard : Claim7 := { stood := { row := scriptBackUptoRow, standIns := [], harness := (true, "b64c46686f643c001f31f6c1b533c0d7c0642b988dd47f138c5c01a8a4cb7604"), looks := true }, kinds := [], alts := [], laidByText := true, laidKinds := [.data, .data, .data, .data, .sentinel, .sentinel, .pinned], laidTests := true, laidLooks := .later }
def ScriptBackUptoCardSaid : Prop := Claim7.holds Tryz.pinned (.plain (OpenSpec.upto scriptBackSpec)) scriptBackUptoCard

/-- THE SECOND FORM's CARD OF 'repriselaw21.ScriptForth'. -/
def scriptForthUptoCard : Claim7 := { stood := { row := scriptForthUptoRow, standIns := [], harness := (true, "b64c46686f643c001f31f6c1b533c0d7c0642b988dd47f138c5c01a8a4cb7604"), looks := true }, kinds := [], alts := [], laidByText := true, laidKinds := [.data, .data, .data, .data, .sentinel, .sentinel, .pinned], laidTests := true, laidLooks := .later }
def ScriptForthUptoCardSaid : Prop := Claim7.holds Tryz.pinned (.plain (OpenSpec.upto scriptForthSpec)) scriptForthUptoCard

/-- THE SECOND FORM's CARD OF 'repriselaw21.ScriptSkips'. -/
def scriptSkipsUptoCard : Claim7 := { stood := { row := scriptSkipsUptoRow, standIns := [], harness := (true, "b64c46686f643c001f31f6c1b533c0d7c0642b988dd47f138c5c01a8a4cb7604"), looks := true }, kinds := [], alts := [], laidByText := true, laidKinds := [.data, .data, .data, .data, .sentinel, .sentinel, .pinned], laidTests := true, laidLooks := .later }
def ScriptSkipsUptoCardSaid : Prop := Claim7.holds Tryz.pinned (.plain (OpenSpec.upto scriptSkipsSpec)) scriptSkipsUptoCard

/-- THE SECOND FORM's CARD OF 'repriselaw21.ScriptMany'. -/
def scriptManyUptoCard : Claim7 := { stood := { row := scriptManyUptoRow, standIns := [], harness := (true, "b64c46686f643c001f31f6c1b533c0d7c0642b988dd47f138c5c01a8a4cb7604"), looks := true }, kinds := [], alts := [], laidByText := true, laidKinds := [.data, .data, .data, .data, .sentinel, .sentinel, .pinned], laidTests := true, laidLooks := .later }
def ScriptManyUptoCardSaid : Prop := Claim7.holds Tryz.pinned (.plain (OpenSpec.upto scriptManySpec)) scriptManyUptoCard

/-- THE SECOND FORM's CARD OF 'repriselaw21.ScriptMemory'. -/
def scriptMemoryUptoCard : Claim7 := { stood := { row := scriptMemoryUptoRow, standIns := [], harness := (true, "b64c46686f643c001f31f6c1b533c0d7c0642b988dd47f138c5c01a8a4cb7604"), looks := true }, kinds := [], alts := [], laidByText := true, laidKinds := [.data, .data, .data, .data, .sentinel, .sentinel, .pinned], laidTests := true, laidLooks := .later }
def ScriptMemoryUptoCardSaid : Prop := Claim7.holds Tryz.pinned (.plain (OpenSpec.upto scriptMemorySpec)) scriptMemoryUptoCard
end Rows
end Go.Proofs.YtbmmaibbiahkkaaGreatDoor
