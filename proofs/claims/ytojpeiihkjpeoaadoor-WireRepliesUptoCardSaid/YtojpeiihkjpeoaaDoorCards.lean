/-
  DERIVED. GIVEN WITH THE SEED: THE CARDS: each row of YtojpeiihkjpeoaaDoorRows.lean that lists a variable, with what it lists TIED to the program's text (the seventh form; the later family's looks); each row that meets fmt, with fmt's text TOLD by the authors' own Lean function (tested against real Go, not proved from fmt's source: count such statements apart). THE CARD IS WHAT COUNTS. Prove the row's statement (the work); the ties are given (YtojpeiihkjpeoaaDoorTie.lean); close each card by the builder's one call (the guide's Derived/Test/ToyasCard.lean, 'card_holds'). Laid BY PROGRAM, IN A SANDBOX (cutbox-door.mjs). By AI agents, Wed Nov 11 2026. No macro, syntax, notation, axiom, sorry.
-/
import Derived.Test.YtojpeiihkjpeoaaDoorRows
import GoSem.ClaimSeven
namespace Go.Proofs.YtojpeiihkjpeoaaDoor
namespace Rows

/-- THE TIED CARD OF 'munimentlaw19.WireReplies'. -/
def wireRepliesCard : Claim7 := { stood := { row := wireRepliesRow, standIns := [], harness := (true, "83ecbbcb6260eb4dee865a9d75472f31e7dc3d21fd85f106e360aa696f2d4e3a"), looks := true }, kinds := [], alts := [], laidByText := true, laidKinds := [.data, .pinned], laidTests := true, laidLooks := .later }
def WireRepliesCardSaid : Prop := Claim7.holds Tryd.pinned (.plain (OpenSpec.ofChange wireRepliesSpec)) wireRepliesCard

/-- THE TIED CARD OF 'munimentlaw19.WireKnown'. -/
def wireKnownCard : Claim7 := { stood := { row := wireKnownRow, standIns := [], harness := (true, "83ecbbcb6260eb4dee865a9d75472f31e7dc3d21fd85f106e360aa696f2d4e3a"), looks := true }, kinds := [], alts := [], laidByText := true, laidKinds := [.data, .pinned], laidTests := true, laidLooks := .later }
def WireKnownCardSaid : Prop := Claim7.holds Tryd.pinned (.plain (OpenSpec.ofChange wireKnownSpec)) wireKnownCard

/-- THE TIED CARD OF 'munimentlaw19.WireSplits'. -/
def wireSplitsCard : Claim7 := { stood := { row := wireSplitsRow, standIns := [], harness := (true, "83ecbbcb6260eb4dee865a9d75472f31e7dc3d21fd85f106e360aa696f2d4e3a"), looks := true }, kinds := [], alts := [], laidByText := true, laidKinds := [.data, .pinned], laidTests := true, laidLooks := .later }
def WireSplitsCardSaid : Prop := Claim7.holds Tryd.pinned (.plain (OpenSpec.ofChange wireSplitsSpec)) wireSplitsCard

/-- THE TIED CARD OF 'munimentlaw19.WireTold'. -/
def wireToldCard : Claim7 := { stood := { row := wireToldRow, standIns := [], harness := (true, "83ecbbcb6260eb4dee865a9d75472f31e7dc3d21fd85f106e360aa696f2d4e3a"), looks := true }, kinds := [], alts := [], laidByText := true, laidKinds := [.data, .pinned], laidTests := true, laidLooks := .later }
def WireToldCardSaid : Prop := Claim7.holds Tryd.pinned (.plain (OpenSpec.ofChange wireToldSpec)) wireToldCard

/-- THE TIED CARD OF 'munimentlaw19.WireRequests'. -/
def wireRequestsCard : Claim7 := { stood := { row := wireRequestsRow, standIns := [], harness := (true, "83ecbbcb6260eb4dee865a9d75472f31e7dc3d21fd85f106e360aa696f2d4e3a"), looks := true }, kinds := [], alts := [], laidByText := true, laidKinds := [.data, .pinned], laidTests := true, laidLooks := .later }
def WireRequestsCardSaid : Prop := Claim7.holds Tryd.pinned (.plain (OpenSpec.ofChange wireRequestsSpec)) wireRequestsCard

/-- THE TIED CARD OF 'munimentlaw19.WireBack'. -/
def wireBackCard : Claim7 := { stood := { row := wireBackRow, standIns := [], harness := (true, "83ecbbcb6260eb4dee865a9d75472f31e7dc3d21fd85f106e360aa696f2d4e3a"), looks := true }, kinds := [], alts := [], laidByText := true, laidKinds := [.data, .pinned], laidTests := true, laidLooks := .later }
def WireBackCardSaid : Prop := Claim7.holds Tryd.pinned (.plain (OpenSpec.ofChange wireBackSpec)) wireBackCard

/-- THE TIED CARD OF 'munimentlaw19.WireKept'. -/
def wireKeptCard : Claim7 := { stood := { row := wireKeptRow, standIns := [], harness := (true, "83ecbbcb6260eb4dee865a9d75472f31e7dc3d21fd85f106e360aa696f2d4e3a"), looks := true }, kinds := [], alts := [], laidByText := true, laidKinds := [.data, .pinned], laidTests := true, laidLooks := .later }
def WireKeptCardSaid : Prop := Claim7.holds Tryd.pinned (.plain (OpenSpec.ofChange wireKeptSpec)) wireKeptCard

/-- THE TIED CARD OF 'munimentlaw19.WireMany'. -/
def wireManyCard : Claim7 := { stood := { row := wireManyRow, standIns := [], harness := (true, "83ecbbcb6260eb4dee865a9d75472f31e7dc3d21fd85f106e360aa696f2d4e3a"), looks := true }, kinds := [], alts := [], laidByText := true, laidKinds := [.data, .pinned], laidTests := true, laidLooks := .later }
def WireManyCardSaid : Prop := Claim7.holds Tryd.pinned (.plain (OpenSpec.ofChange wireManySpec)) wireManyCard

/-- THE TIED CARD OF 'munimentlaw2.ValSizes'. -/
def valSizesCard : Claim7 := { stood := { row := valSizesRow, standIns := [], harness := (true, "83ecbbcb6260eb4dee865a9d75472f31e7dc3d21fd85f106e360aa696f2d4e3a"), looks := true }, kinds := [], alts := [], laidByText := true, laidKinds := [.data, .pinned], laidTests := true, laidLooks := .later }
def ValSizesCardSaid : Prop := Claim7.holds Tryd.pinned (.plain (OpenSpec.ofChange valSizesSpec)) valSizesCard

/-- THE TIED CARD OF 'munimentlaw2.ValPaths'. -/
def valPathsCard : Claim7 := { stood := { row := valPathsRow, standIns := [], harness := (true, "83ecbbcb6260eb4dee865a9d75472f31e7dc3d21fd85f106e360aa696f2d4e3a"), looks := true }, kinds := [], alts := [], laidByText := true, laidKinds := [.data, .pinned], laidTests := true, laidLooks := .later }
def ValPathsCardSaid : Prop := Claim7.holds Tryd.pinned (.plain (OpenSpec.ofChange valPathsSpec)) valPathsCard

/-- THE TIED CARD OF 'munimentlaw2.ValFields'. -/
def valFieldsCard : Claim7 := { stood := { row := valFieldsRow, standIns := [], harness := (true, "83ecbbcb6260eb4dee865a9d75472f31e7dc3d21fd85f106e360aa696f2d4e3a"), looks := true }, kinds := [], alts := [], laidByText := true, laidKinds := [.data, .pinned], laidTests := true, laidLooks := .later }
def ValFieldsCardSaid : Prop := Claim7.holds Tryd.pinned (.plain (OpenSpec.ofChange valFieldsSpec)) valFieldsCard

/-- THE TIED CARD OF 'munimentlaw2.ValKnown'. -/
def valKnownCard : Claim7 := { stood := { row := valKnownRow, standIns := [], harness := (true, "83ecbbcb6260eb4dee865a9d75472f31e7dc3d21fd85f106e360aa696f2d4e3a"), looks := true }, kinds := [], alts := [], laidByText := true, laidKinds := [.data, .pinned], laidTests := true, laidLooks := .later }
def ValKnownCardSaid : Prop := Claim7.holds Tryd.pinned (.plain (OpenSpec.ofChange valKnownSpec)) valKnownCard

/-- THE SECOND FORM's CARD OF 'munimentlaw19.WireReplies'. -/
def wireRepliesUptoCard : Claim7 := { stood := { row := wireRepliesUptoRow, standIns := [], harness := (true, "83ecbbcb6260eb4dee865a9d75472f31e7dc3d21fd85f106e360aa696f2d4e3a"), looks := true }, kinds := [], alts := [], laidByText := true, laidKinds := [.data, .pinned], laidTests := true, laidLooks := .later }
def WireRepliesUptoCardSaid : Prop := Claim7.holds Tryd.pinned (.plain (OpenSpec.upto wireRepliesSpec)) wireRepliesUptoCard

/-- THE SECOND FORM's CARD OF 'munimentlaw19.WireKnown'. -/
def wireKnownUptoCard : Claim7 := { stood := { row := wireKnownUptoRow, standIns := [], harness := (true, "83ecbbcb6260eb4dee865a9d75472f31e7dc3d21fd85f106e360aa696f2d4e3a"), looks := true }, kinds := [], alts := [], laidByText := true, laidKinds := [.data, .pinned], laidTests := true, laidLooks := .later }
def WireKnownUptoCardSaid : Prop := Claim7.holds Tryd.pinned (.plain (OpenSpec.upto wireKnownSpec)) wireKnownUptoCard

/-- THE SECOND FORM's CARD OF 'munimentlaw19.WireSplits'. -/
def wireSplitsUptoCard : Claim7 := { stood := { row := wireSplitsUptoRow, standIns := [], harness := (true, "83ecbbcb6260eb4dee865a9d75472f31e7dc3d21fd85f106e360aa696f2d4e3a"), looks := true }, kinds := [], alts := [], laidByText := true, laidKinds := [.data, .pinned], laidTests := true, laidLooks := .later }
def WireSplitsUptoCardSaid : Prop := Claim7.holds Tryd.pinned (.plain (OpenSpec.upto wireSplitsSpec)) wireSplitsUptoCard

/-- THE SECOND FORM's CARD OF 'munimentlaw19.WireTold'. -/
def wireToldUptoCard : Claim7 := { stood := { row := wireToldUptoRow, standIns := [], harness := (true, "83ecbbcb6260eb4dee865a9d75472f31e7dc3d21fd85f106e360aa696f2d4e3a"), looks := true }, kinds := [], alts := [], laidByText := true, laidKinds := [.data, .pinned], laidTests := true, laidLooks := .later }
def WireToldUptoCardSaid : Prop := Claim7.holds Tryd.pinned (.plain (OpenSpec.upto wireToldSpec)) wireToldUptoCard

/-- THE SECOND FORM's CARD OF 'munimentlaw19.WireRequests'. -/
def wireRequestsUptoCard : Claim7 := { stood := { row := wireRequestsUptoRow, standIns := [], harness := (true, "83ecbbcb6260eb4dee865a9d75472f31e7dc3d21fd85f106e360aa696f2d4e3a"), looks := true }, kinds := [], alts := [], laidByText := true, laidKinds := [.data, .pinned], laidTests := true, laidLooks := .later }
def WireRequestsUptoCardSaid : Prop := Claim7.holds Tryd.pinned (.plain (OpenSpec.upto wireRequestsSpec)) wireRequestsUptoCard

/-- THE SECOND FORM's CARD OF 'munimentlaw19.WireBack'. -/
def wireBackUptoCard : Claim7 := { stood := { row := wireBackUptoRow, standIns := [], harness := (true, "83ecbbcb6260eb4dee865a9d75472f31e7dc3d21fd85f106e360aa696f2d4e3a"), looks := true }, kinds := [], alts := [], laidByText := true, laidKinds := [.data, .pinned], laidTests := true, laidLooks := .later }
def WireBackUptoCardSaid : Prop := Claim7.holds Tryd.pinned (.plain (OpenSpec.upto wireBackSpec)) wireBackUptoCard

/-- THE SECOND FORM's CARD OF 'munimentlaw19.WireKept'. -/
def wireKeptUptoCard : Claim7 := { stood := { row := wireKeptUptoRow, standIns := [], harness := (true, "83ecbbcb6260eb4dee865a9d75472f31e7dc3d21fd85f106e360aa696f2d4e3a"), looks := true }, kinds := [], alts := [], laidByText := true, laidKinds := [.data, .pinned], laidTests := true, laidLooks := .later }
def WireKeptUptoCardSaid : Prop := Claim7.holds Tryd.pinned (.plain (OpenSpec.upto wireKeptSpec)) wireKeptUptoCard

/-- THE SECOND FORM's CARD OF 'munimentlaw19.WireMany'. -/
def wireManyUptoCard : Claim7 := { stood := { row := wireManyUptoRow, standIns := [], harness := (true, "83ecbbcb6260eb4dee865a9d75472f31e7dc3d21fd85f106e360aa696f2d4e3a"), looks := true }, kinds := [], alts := [], laidByText := true, laidKinds := [.data, .pinned], laidTests := true, laidLooks := .later }
def WireManyUptoCardSaid : Prop := Claim7.holds Tryd.pinned (.plain (OpenSpec.upto wireManySpec)) wireManyUptoCard

/-- THE SECOND FORM's CARD OF 'munimentlaw2.ValSizes'. -/
def valSizesUptoCard : Claim7 := { stood := { row := valSizesUptoRow, standIns := [], harness := (true, "83ecbbcb6260eb4dee865a9d75472f31e7dc3d21fd85f106e360aa696f2d4e3a"), looks := true }, kinds := [], alts := [], laidByText := true, laidKinds := [.data, .pinned], laidTests := true, laidLooks := .later }
def ValSizesUptoCardSaid : Prop := Claim7.holds Tryd.pinned (.plain (OpenSpec.upto valSizesSpec)) valSizesUptoCard

/-- THE SECOND FORM's CARD OF 'munimentlaw2.ValPaths'. -/
def valPathsUptoCard : Claim7 := { stood := { row := valPathsUptoRow, standIns := [], harness := (true, "83ecbbcb6260eb4dee865a9d75472f31e7dc3d21fd85f106e360aa696f2d4e3a"), looks := true }, kinds := [], alts := [], laidByText := true, laidKinds := [.data, .pinned], laidTests := true, laidLooks := .later }
def ValPathsUptoCardSaid : Prop := Claim7.holds Tryd.pinned (.plain (OpenSpec.upto valPathsSpec)) valPathsUptoCard

/-- THE SECOND FORM's CARD OF 'munimentlaw2.ValFields'. -/
def valFieldsUptoCard : Claim7 := { stood := { row := valFieldsUptoRow, standIns := [], harness := (true, "83ecbbcb6260eb4dee865a9d75472f31e7dc3d21fd85f106e360aa696f2d4e3a"), looks := true }, kinds := [], alts := [], laidByText := true, laidKinds := [.data, .pinned], laidTests := true, laidLooks := .later }
def ValFieldsUptoCardSaid : Prop := Claim7.holds Tryd.pinned (.plain (OpenSpec.upto valFieldsSpec)) valFieldsUptoCard

/-- THE SECOND FORM's CARD OF 'munimentlaw2.ValKnown'. -/
def valKnownUptoCard : Claim7 := { stood := { row := valKnownUptoRow, standIns := [], harness := (true, "83ecbbcb6260eb4dee865a9d75472f31e7dc3d21fd85f106e360aa696f2d4e3a"), looks := true }, kinds := [], alts := [], laidByText := true, laidKinds := [.data, .pinned], laidTests := true, laidLooks := .later }
def ValKnownUptoCardSaid : Prop := Claim7.holds Tryd.pinned (.plain (OpenSpec.upto valKnownSpec)) valKnownUptoCard
end Rows
end Go.Proofs.YtojpeiihkjpeoaaDoor
