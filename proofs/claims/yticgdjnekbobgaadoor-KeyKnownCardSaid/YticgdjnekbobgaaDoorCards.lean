/-
  DERIVED. GIVEN WITH THE SEED: THE CARDS: each row of YticgdjnekbobgaaDoorRows.lean that lists a variable, with what it lists TIED to the program's text (the seventh form; the later family's looks); each row that meets fmt, with fmt's text TOLD by the authors' own Lean function (tested against real Go, not proved from fmt's source: count such statements apart). THE CARD IS WHAT COUNTS. Prove the row's statement (the work); the ties are given (YticgdjnekbobgaaDoorTie.lean); close each card by the builder's one call (the guide's Derived/Test/ToyasCard.lean, 'card_holds'). Laid BY PROGRAM, IN A SANDBOX (cutbox-door.mjs). By AI agents, Wed Nov 11 2026. No macro, syntax, notation, axiom, sorry.
-/
import Derived.Test.YticgdjnekbobgaaDoorRows
import GoSem.ClaimSeven
namespace Go.Proofs.YticgdjnekbobgaaDoor
namespace Rows

/-- THE TIED CARD OF 'munimentlaw4.KeySingle'. -/
def keySingleCard : Claim7 := { stood := { row := keySingleRow, standIns := [], harness := (true, "70d1e9d91d0a7d8f4266a05a2ce42f911d8aa19f08aed6904bb637f2d823f45f"), looks := true }, kinds := [], alts := [], laidByText := true, laidKinds := [.data, .pinned], laidTests := true, laidLooks := .later }
def KeySingleCardSaid : Prop := Claim7.holds Tryd.pinned (.plain (OpenSpec.ofChange keySingleSpec)) keySingleCard

/-- THE TIED CARD OF 'munimentlaw4.KeyMany'. -/
def keyManyCard : Claim7 := { stood := { row := keyManyRow, standIns := [], harness := (true, "70d1e9d91d0a7d8f4266a05a2ce42f911d8aa19f08aed6904bb637f2d823f45f"), looks := true }, kinds := [], alts := [], laidByText := true, laidKinds := [.data, .pinned], laidTests := true, laidLooks := .later }
def KeyManyCardSaid : Prop := Claim7.holds Tryd.pinned (.plain (OpenSpec.ofChange keyManySpec)) keyManyCard

/-- THE TIED CARD OF 'munimentlaw19.WireKept'. -/
def wireKeptCard : Claim7 := { stood := { row := wireKeptRow, standIns := [], harness := (true, "70d1e9d91d0a7d8f4266a05a2ce42f911d8aa19f08aed6904bb637f2d823f45f"), looks := true }, kinds := [], alts := [], laidByText := true, laidKinds := [.data, .pinned], laidTests := true, laidLooks := .later }
def WireKeptCardSaid : Prop := Claim7.holds Tryd.pinned (.plain (OpenSpec.ofChange wireKeptSpec)) wireKeptCard

/-- THE TIED CARD OF 'munimentlaw4.KeyKnown'. -/
def keyKnownCard : Claim7 := { stood := { row := keyKnownRow, standIns := [], harness := (true, "70d1e9d91d0a7d8f4266a05a2ce42f911d8aa19f08aed6904bb637f2d823f45f"), looks := true }, kinds := [], alts := [], laidByText := true, laidKinds := [.data, .pinned], laidTests := true, laidLooks := .later }
def KeyKnownCardSaid : Prop := Claim7.holds Tryd.pinned (.plain (OpenSpec.ofChange keyKnownSpec)) keyKnownCard

/-- THE TIED CARD OF 'munimentlaw4.KeyKept'. -/
def keyKeptCard : Claim7 := { stood := { row := keyKeptRow, standIns := [], harness := (true, "70d1e9d91d0a7d8f4266a05a2ce42f911d8aa19f08aed6904bb637f2d823f45f"), looks := true }, kinds := [], alts := [], laidByText := true, laidKinds := [.data, .pinned], laidTests := true, laidLooks := .later }
def KeyKeptCardSaid : Prop := Claim7.holds Tryd.pinned (.plain (OpenSpec.ofChange keyKeptSpec)) keyKeptCard

/-- THE TIED CARD OF 'munimentlaw4.KeyBytes'. -/
def keyBytesCard : Claim7 := { stood := { row := keyBytesRow, standIns := [], harness := (true, "70d1e9d91d0a7d8f4266a05a2ce42f911d8aa19f08aed6904bb637f2d823f45f"), looks := true }, kinds := [], alts := [], laidByText := true, laidKinds := [.data, .pinned], laidTests := true, laidLooks := .later }
def KeyBytesCardSaid : Prop := Claim7.holds Tryd.pinned (.plain (OpenSpec.ofChange keyBytesSpec)) keyBytesCard

/-- THE TIED CARD OF 'munimentlaw4.KeyBeyond'. -/
def keyBeyondCard : Claim7 := { stood := { row := keyBeyondRow, standIns := [], harness := (true, "70d1e9d91d0a7d8f4266a05a2ce42f911d8aa19f08aed6904bb637f2d823f45f"), looks := true }, kinds := [], alts := [], laidByText := true, laidKinds := [.data, .pinned], laidTests := true, laidLooks := .later }
def KeyBeyondCardSaid : Prop := Claim7.holds Tryd.pinned (.plain (OpenSpec.ofChange keyBeyondSpec)) keyBeyondCard

/-- THE TIED CARD OF 'munimentlaw4.KeyPrefix'. -/
def keyPrefixCard : Claim7 := { stood := { row := keyPrefixRow, standIns := [], harness := (true, "70d1e9d91d0a7d8f4266a05a2ce42f911d8aa19f08aed6904bb637f2d823f45f"), looks := true }, kinds := [], alts := [], laidByText := true, laidKinds := [.data, .pinned], laidTests := true, laidLooks := .later }
def KeyPrefixCardSaid : Prop := Claim7.holds Tryd.pinned (.plain (OpenSpec.ofChange keyPrefixSpec)) keyPrefixCard

/-- THE TIED CARD OF 'munimentlaw19.WireMany'. -/
def wireManyCard : Claim7 := { stood := { row := wireManyRow, standIns := [], harness := (true, "70d1e9d91d0a7d8f4266a05a2ce42f911d8aa19f08aed6904bb637f2d823f45f"), looks := true }, kinds := [], alts := [], laidByText := true, laidKinds := [.data, .pinned], laidTests := true, laidLooks := .later }
def WireManyCardSaid : Prop := Claim7.holds Tryd.pinned (.plain (OpenSpec.ofChange wireManySpec)) wireManyCard

/-- THE TIED CARD OF 'munimentlaw2.ValSizes'. -/
def valSizesCard : Claim7 := { stood := { row := valSizesRow, standIns := [], harness := (true, "70d1e9d91d0a7d8f4266a05a2ce42f911d8aa19f08aed6904bb637f2d823f45f"), looks := true }, kinds := [], alts := [], laidByText := true, laidKinds := [.data, .pinned], laidTests := true, laidLooks := .later }
def ValSizesCardSaid : Prop := Claim7.holds Tryd.pinned (.plain (OpenSpec.ofChange valSizesSpec)) valSizesCard

/-- THE TIED CARD OF 'munimentlaw2.ValPaths'. -/
def valPathsCard : Claim7 := { stood := { row := valPathsRow, standIns := [], harness := (true, "70d1e9d91d0a7d8f4266a05a2ce42f911d8aa19f08aed6904bb637f2d823f45f"), looks := true }, kinds := [], alts := [], laidByText := true, laidKinds := [.data, .pinned], laidTests := true, laidLooks := .later }
def ValPathsCardSaid : Prop := Claim7.holds Tryd.pinned (.plain (OpenSpec.ofChange valPathsSpec)) valPathsCard

/-- THE TIED CARD OF 'munimentlaw2.ValFields'. -/
def valFieldsCard : Claim7 := { stood := { row := valFieldsRow, standIns := [], harness := (true, "70d1e9d91d0a7d8f4266a05a2ce42f911d8aa19f08aed6904bb637f2d823f45f"), looks := true }, kinds := [], alts := [], laidByText := true, laidKinds := [.data, .pinned], laidTests := true, laidLooks := .later }
def ValFieldsCardSaid : Prop := Claim7.holds Tryd.pinned (.plain (OpenSpec.ofChange valFieldsSpec)) valFieldsCard

/-- THE SECOND FORM's CARD OF 'munimentlaw4.KeySingle'. -/
def keySingleUptoCard : Claim7 := { stood := { row := keySingleUptoRow, standIns := [], harness := (true, "70d1e9d91d0a7d8f4266a05a2ce42f911d8aa19f08aed6904bb637f2d823f45f"), looks := true }, kinds := [], alts := [], laidByText := true, laidKinds := [.data, .pinned], laidTests := true, laidLooks := .later }
def KeySingleUptoCardSaid : Prop := Claim7.holds Tryd.pinned (.plain (OpenSpec.upto keySingleSpec)) keySingleUptoCard

/-- THE SECOND FORM's CARD OF 'munimentlaw4.KeyMany'. -/
def keyManyUptoCard : Claim7 := { stood := { row := keyManyUptoRow, standIns := [], harness := (true, "70d1e9d91d0a7d8f4266a05a2ce42f911d8aa19f08aed6904bb637f2d823f45f"), looks := true }, kinds := [], alts := [], laidByText := true, laidKinds := [.data, .pinned], laidTests := true, laidLooks := .later }
def KeyManyUptoCardSaid : Prop := Claim7.holds Tryd.pinned (.plain (OpenSpec.upto keyManySpec)) keyManyUptoCard

/-- THE SECOND FORM's CARD OF 'munimentlaw19.WireKept'. -/
def wireKeptUptoCard : Claim7 := { stood := { row := wireKeptUptoRow, standIns := [], harness := (true, "70d1e9d91d0a7d8f4266a05a2ce42f911d8aa19f08aed6904bb637f2d823f45f"), looks := true }, kinds := [], alts := [], laidByText := true, laidKinds := [.data, .pinned], laidTests := true, laidLooks := .later }
def WireKeptUptoCardSaid : Prop := Claim7.holds Tryd.pinned (.plain (OpenSpec.upto wireKeptSpec)) wireKeptUptoCard

/-- THE SECOND FORM's CARD OF 'munimentlaw4.KeyKnown'. -/
def keyKnownUptoCard : Claim7 := { stood := { row := keyKnownUptoRow, standIns := [], harness := (true, "70d1e9d91d0a7d8f4266a05a2ce42f911d8aa19f08aed6904bb637f2d823f45f"), looks := true }, kinds := [], alts := [], laidByText := true, laidKinds := [.data, .pinned], laidTests := true, laidLooks := .later }
def KeyKnownUptoCardSaid : Prop := Claim7.holds Tryd.pinned (.plain (OpenSpec.upto keyKnownSpec)) keyKnownUptoCard

/-- THE SECOND FORM's CARD OF 'munimentlaw4.KeyKept'. -/
def keyKeptUptoCard : Claim7 := { stood := { row := keyKeptUptoRow, standIns := [], harness := (true, "70d1e9d91d0a7d8f4266a05a2ce42f911d8aa19f08aed6904bb637f2d823f45f"), looks := true }, kinds := [], alts := [], laidByText := true, laidKinds := [.data, .pinned], laidTests := true, laidLooks := .later }
def KeyKeptUptoCardSaid : Prop := Claim7.holds Tryd.pinned (.plain (OpenSpec.upto keyKeptSpec)) keyKeptUptoCard

/-- THE SECOND FORM's CARD OF 'munimentlaw4.KeyBytes'. -/
def keyBytesUptoCard : Claim7 := { stood := { row := keyBytesUptoRow, standIns := [], harness := (true, "70d1e9d91d0a7d8f4266a05a2ce42f911d8aa19f08aed6904bb637f2d823f45f"), looks := true }, kinds := [], alts := [], laidByText := true, laidKinds := [.data, .pinned], laidTests := true, laidLooks := .later }
def KeyBytesUptoCardSaid : Prop := Claim7.holds Tryd.pinned (.plain (OpenSpec.upto keyBytesSpec)) keyBytesUptoCard

/-- THE SECOND FORM's CARD OF 'munimentlaw4.KeyBeyond'. -/
def keyBeyondUptoCard : Claim7 := { stood := { row := keyBeyondUptoRow, standIns := [], harness := (true, "70d1e9d91d0a7d8f4266a05a2ce42f911d8aa19f08aed6904bb637f2d823f45f"), looks := true }, kinds := [], alts := [], laidByText := true, laidKinds := [.data, .pinned], laidTests := true, laidLooks := .later }
def KeyBeyondUptoCardSaid : Prop := Claim7.holds Tryd.pinned (.plain (OpenSpec.upto keyBeyondSpec)) keyBeyondUptoCard

/-- THE SECOND FORM's CARD OF 'munimentlaw4.KeyPrefix'. -/
def keyPrefixUptoCard : Claim7 := { stood := { row := keyPrefixUptoRow, standIns := [], harness := (true, "70d1e9d91d0a7d8f4266a05a2ce42f911d8aa19f08aed6904bb637f2d823f45f"), looks := true }, kinds := [], alts := [], laidByText := true, laidKinds := [.data, .pinned], laidTests := true, laidLooks := .later }
def KeyPrefixUptoCardSaid : Prop := Claim7.holds Tryd.pinned (.plain (OpenSpec.upto keyPrefixSpec)) keyPrefixUptoCard

/-- THE SECOND FORM's CARD OF 'munimentlaw19.WireMany'. -/
def wireManyUptoCard : Claim7 := { stood := { row := wireManyUptoRow, standIns := [], harness := (true, "70d1e9d91d0a7d8f4266a05a2ce42f911d8aa19f08aed6904bb637f2d823f45f"), looks := true }, kinds := [], alts := [], laidByText := true, laidKinds := [.data, .pinned], laidTests := true, laidLooks := .later }
def WireManyUptoCardSaid : Prop := Claim7.holds Tryd.pinned (.plain (OpenSpec.upto wireManySpec)) wireManyUptoCard

/-- THE SECOND FORM's CARD OF 'munimentlaw2.ValSizes'. -/
def valSizesUptoCard : Claim7 := { stood := { row := valSizesUptoRow, standIns := [], harness := (true, "70d1e9d91d0a7d8f4266a05a2ce42f911d8aa19f08aed6904bb637f2d823f45f"), looks := true }, kinds := [], alts := [], laidByText := true, laidKinds := [.data, .pinned], laidTests := true, laidLooks := .later }
def ValSizesUptoCardSaid : Prop := Claim7.holds Tryd.pinned (.plain (OpenSpec.upto valSizesSpec)) valSizesUptoCard

/-- THE SECOND FORM's CARD OF 'munimentlaw2.ValPaths'. -/
def valPathsUptoCard : Claim7 := { stood := { row := valPathsUptoRow, standIns := [], harness := (true, "70d1e9d91d0a7d8f4266a05a2ce42f911d8aa19f08aed6904bb637f2d823f45f"), looks := true }, kinds := [], alts := [], laidByText := true, laidKinds := [.data, .pinned], laidTests := true, laidLooks := .later }
def ValPathsUptoCardSaid : Prop := Claim7.holds Tryd.pinned (.plain (OpenSpec.upto valPathsSpec)) valPathsUptoCard

/-- THE SECOND FORM's CARD OF 'munimentlaw2.ValFields'. -/
def valFieldsUptoCard : Claim7 := { stood := { row := valFieldsUptoRow, standIns := [], harness := (true, "70d1e9d91d0a7d8f4266a05a2ce42f911d8aa19f08aed6904bb637f2d823f45f"), looks := true }, kinds := [], alts := [], laidByText := true, laidKinds := [.data, .pinned], laidTests := true, laidLooks := .later }
def ValFieldsUptoCardSaid : Prop := Claim7.holds Tryd.pinned (.plain (OpenSpec.upto valFieldsSpec)) valFieldsUptoCard
end Rows
end Go.Proofs.YticgdjnekbobgaaDoor
