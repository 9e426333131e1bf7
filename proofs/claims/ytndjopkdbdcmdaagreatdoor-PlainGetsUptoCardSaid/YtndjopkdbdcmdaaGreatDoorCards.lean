/-
  DERIVED. GIVEN WITH THE SEED: THE CARDS: each row of YtndjopkdbdcmdaaGreatDoorRows.lean that lists a variable, with what it lists TIED to the program's text (the seventh form; the later family's looks); each row that meets fmt, with fmt's text TOLD by the authors' own Lean function (tested against real Go, not proved from fmt's source: count such statements apart). THE CARD IS WHAT COUNTS. Prove the row's statement (the work); the ties are given (YtndjopkdbdcmdaaGreatDoorTie.lean); close each card by the builder's one call (the guide's Derived/Test/ToyasCard.lean, 'card_holds'). Laid BY PROGRAM, IN A SANDBOX (cutbox-door.mjs). By AI agents, Wed Nov 11 2026. No macro, syntax, notation, axiom, sorry.
-/
import Derived.Test.YtndjopkdbdcmdaaGreatDoorRows
import GoSem.ClaimSeven
namespace Go.Proofs.YtndjopkdbdcmdaaGreatDoor
namespace Rows

/-- THE TIED CARD OF 'munimentlaw15.PlainKnown'. -/
def plainKnownCard : Claim7 := { stood := { row := plainKnownRow, standIns := [], harness := (true, "83893f2ef0eeb971aa1157a8b018a21d825b60f9d0aad1637a01f0d8c04bc09f"), looks := true }, kinds := [], alts := [], laidByText := true, laidKinds := [.data, .pinned], laidTests := true, laidLooks := .later }
def PlainKnownCardSaid : Prop := Claim7.holds Tryz.pinned (.plain (OpenSpec.ofChange plainKnownSpec)) plainKnownCard

/-- THE TIED CARD OF 'munimentlaw15.PlainFinds'. -/
def plainFindsCard : Claim7 := { stood := { row := plainFindsRow, standIns := [], harness := (true, "83893f2ef0eeb971aa1157a8b018a21d825b60f9d0aad1637a01f0d8c04bc09f"), looks := true }, kinds := [], alts := [], laidByText := true, laidKinds := [.data, .pinned], laidTests := true, laidLooks := .later }
def PlainFindsCardSaid : Prop := Claim7.holds Tryz.pinned (.plain (OpenSpec.ofChange plainFindsSpec)) plainFindsCard

/-- THE TIED CARD OF 'munimentlaw15.PlainIndexes'. -/
def plainIndexesCard : Claim7 := { stood := { row := plainIndexesRow, standIns := [], harness := (true, "83893f2ef0eeb971aa1157a8b018a21d825b60f9d0aad1637a01f0d8c04bc09f"), looks := true }, kinds := [], alts := [], laidByText := true, laidKinds := [.data, .pinned], laidTests := true, laidLooks := .later }
def PlainIndexesCardSaid : Prop := Claim7.holds Tryz.pinned (.plain (OpenSpec.ofChange plainIndexesSpec)) plainIndexesCard

/-- THE TIED CARD OF 'munimentlaw15.PlainOrdered'. -/
def plainOrderedCard : Claim7 := { stood := { row := plainOrderedRow, standIns := [], harness := (true, "83893f2ef0eeb971aa1157a8b018a21d825b60f9d0aad1637a01f0d8c04bc09f"), looks := true }, kinds := [], alts := [], laidByText := true, laidKinds := [.data, .pinned], laidTests := true, laidLooks := .later }
def PlainOrderedCardSaid : Prop := Claim7.holds Tryz.pinned (.plain (OpenSpec.ofChange plainOrderedSpec)) plainOrderedCard

/-- THE TIED CARD OF 'munimentlaw15.PlainEntries'. -/
def plainEntriesCard : Claim7 := { stood := { row := plainEntriesRow, standIns := [], harness := (true, "83893f2ef0eeb971aa1157a8b018a21d825b60f9d0aad1637a01f0d8c04bc09f"), looks := true }, kinds := [], alts := [], laidByText := true, laidKinds := [.data, .pinned], laidTests := true, laidLooks := .later }
def PlainEntriesCardSaid : Prop := Claim7.holds Tryz.pinned (.plain (OpenSpec.ofChange plainEntriesSpec)) plainEntriesCard

/-- THE TIED CARD OF 'munimentlaw15.PlainGets'. -/
def plainGetsCard : Claim7 := { stood := { row := plainGetsRow, standIns := [], harness := (true, "83893f2ef0eeb971aa1157a8b018a21d825b60f9d0aad1637a01f0d8c04bc09f"), looks := true }, kinds := [], alts := [], laidByText := true, laidKinds := [.data, .pinned], laidTests := true, laidLooks := .later }
def PlainGetsCardSaid : Prop := Claim7.holds Tryz.pinned (.plain (OpenSpec.ofChange plainGetsSpec)) plainGetsCard

/-- THE SECOND FORM's CARD OF 'munimentlaw15.PlainKnown'. -/
def plainKnownUptoCard : Claim7 := { stood := { row := plainKnownUptoRow, standIns := [], harness := (true, "83893f2ef0eeb971aa1157a8b018a21d825b60f9d0aad1637a01f0d8c04bc09f"), looks := true }, kinds := [], alts := [], laidByText := true, laidKinds := [.data, .pinned], laidTests := true, laidLooks := .later }
def PlainKnownUptoCardSaid : Prop := Claim7.holds Tryz.pinned (.plain (OpenSpec.upto plainKnownSpec)) plainKnownUptoCard

/-- THE SECOND FORM's CARD OF 'munimentlaw15.PlainFinds'. -/
def plainFindsUptoCard : Claim7 := { stood := { row := plainFindsUptoRow, standIns := [], harness := (true, "83893f2ef0eeb971aa1157a8b018a21d825b60f9d0aad1637a01f0d8c04bc09f"), looks := true }, kinds := [], alts := [], laidByText := true, laidKinds := [.data, .pinned], laidTests := true, laidLooks := .later }
def PlainFindsUptoCardSaid : Prop := Claim7.holds Tryz.pinned (.plain (OpenSpec.upto plainFindsSpec)) plainFindsUptoCard

/-- THE SECOND FORM's CARD OF 'munimentlaw15.PlainIndexes'. -/
def plainIndexesUptoCard : Claim7 := { stood := { row := plainIndexesUptoRow, standIns := [], harness := (true, "83893f2ef0eeb971aa1157a8b018a21d825b60f9d0aad1637a01f0d8c04bc09f"), looks := true }, kinds := [], alts := [], laidByText := true, laidKinds := [.data, .pinned], laidTests := true, laidLooks := .later }
def PlainIndexesUptoCardSaid : Prop := Claim7.holds Tryz.pinned (.plain (OpenSpec.upto plainIndexesSpec)) plainIndexesUptoCard

/-- THE SECOND FORM's CARD OF 'munimentlaw15.PlainOrdered'. -/
def plainOrderedUptoCard : Claim7 := { stood := { row := plainOrderedUptoRow, standIns := [], harness := (true, "83893f2ef0eeb971aa1157a8b018a21d825b60f9d0aad1637a01f0d8c04bc09f"), looks := true }, kinds := [], alts := [], laidByText := true, laidKinds := [.data, .pinned], laidTests := true, laidLooks := .later }
def PlainOrderedUptoCardSaid : Prop := Claim7.holds Tryz.pinned (.plain (OpenSpec.upto plainOrderedSpec)) plainOrderedUptoCard

/-- THE SECOND FORM's CARD OF 'munimentlaw15.PlainEntries'. -/
def plainEntriesUptoCard : Claim7 := { stood := { row := plainEntriesUptoRow, standIns := [], harness := (true, "83893f2ef0eeb971aa1157a8b018a21d825b60f9d0aad1637a01f0d8c04bc09f"), looks := true }, kinds := [], alts := [], laidByText := true, laidKinds := [.data, .pinned], laidTests := true, laidLooks := .later }
def PlainEntriesUptoCardSaid : Prop := Claim7.holds Tryz.pinned (.plain (OpenSpec.upto plainEntriesSpec)) plainEntriesUptoCard

/-- THE SECOND FORM's CARD OF 'munimentlaw15.PlainGets'. -/
def plainGetsUptoCard : Claim7 := { stood := { row := plainGetsUptoRow, standIns := [], harness := (true, "83893f2ef0eeb971aa1157a8b018a21d825b60f9d0aad1637a01f0d8c04bc09f"), looks := true }, kinds := [], alts := [], laidByText := true, laidKinds := [.data, .pinned], laidTests := true, laidLooks := .later }
def PlainGetsUptoCardSaid : Prop := Claim7.holds Tryz.pinned (.plain (OpenSpec.upto plainGetsSpec)) plainGetsUptoCard
end Rows
end Go.Proofs.YtndjopkdbdcmdaaGreatDoor
