/-
  DERIVED. GIVEN WITH THE SEED: THE CARDS: each row of YtpjhhkndfmcaoaaDoorRows.lean that lists a variable, with what it lists TIED to the program's text (the seventh form; the later family's looks); each row that meets fmt, with fmt's text TOLD by the authors' own Lean function (tested against real Go, not proved from fmt's source: count such statements apart). THE CARD IS WHAT COUNTS. Prove the row's statement (the work); the ties are given (YtpjhhkndfmcaoaaDoorTie.lean); close each card by the builder's one call (the guide's Derived/Test/ToyasCard.lean, 'card_holds'). Laid BY PROGRAM, IN A SANDBOX (cutbox-door.mjs). By AI agents, Wed Nov 11 2026. No macro, syntax, notation, axiom, sorry.
-/
import Derived.Test.YtpjhhkndfmcaoaaDoorRows
import GoSem.ClaimSeven
namespace Go.Proofs.YtpjhhkndfmcaoaaDoor
namespace Rows

/-- THE TIED CARD OF 'munimentlaw4.KeySingle'. -/
def keySingleCard : Claim7 := { stood := { row := keySingleRow, standIns := [], harness := (true, "88f120a65a4437a9d52fff3155ec739a55b9e3c24b80f1883989d9ab44524e23"), looks := true }, kinds := [], alts := [], laidByText := true, laidKinds := [.data, .pinned], laidTests := true, laidLooks := .later }
def KeySingleCardSaid : Prop := Claim7.holds Tryd.pinned (.plain (OpenSpec.ofChange keySingleSpec)) keySingleCard

/-- THE TIED CARD OF 'munimentlaw4.KeyMany'. -/
def keyManyCard : Claim7 := { stood := { row := keyManyRow, standIns := [], harness := (true, "88f120a65a4437a9d52fff3155ec739a55b9e3c24b80f1883989d9ab44524e23"), looks := true }, kinds := [], alts := [], laidByText := true, laidKinds := [.data, .pinned], laidTests := true, laidLooks := .later }
def KeyManyCardSaid : Prop := Claim7.holds Tryd.pinned (.plain (OpenSpec.ofChange keyManySpec)) keyManyCard

/-- THE TIED CARD OF 'munimentlaw4.KeyKept'. -/
def keyKeptCard : Claim7 := { stood := { row := keyKeptRow, standIns := [], harness := (true, "88f120a65a4437a9d52fff3155ec739a55b9e3c24b80f1883989d9ab44524e23"), looks := true }, kinds := [], alts := [], laidByText := true, laidKinds := [.data, .pinned], laidTests := true, laidLooks := .later }
def KeyKeptCardSaid : Prop := Claim7.holds Tryd.pinned (.plain (OpenSpec.ofChange keyKeptSpec)) keyKeptCard

/-- THE TIED CARD OF 'munimentlaw19.WireMany'. -/
def wireManyCard : Claim7 := { stood := { row := wireManyRow, standIns := [], harness := (true, "88f120a65a4437a9d52fff3155ec739a55b9e3c24b80f1883989d9ab44524e23"), looks := true }, kinds := [], alts := [], laidByText := true, laidKinds := [.data, .pinned], laidTests := true, laidLooks := .later }
def WireManyCardSaid : Prop := Claim7.holds Tryd.pinned (.plain (OpenSpec.ofChange wireManySpec)) wireManyCard

/-- THE TIED CARD OF 'munimentlaw2.ValOrders'. -/
def valOrdersCard : Claim7 := { stood := { row := valOrdersRow, standIns := [], harness := (true, "88f120a65a4437a9d52fff3155ec739a55b9e3c24b80f1883989d9ab44524e23"), looks := true }, kinds := [], alts := [], laidByText := true, laidKinds := [.data, .pinned], laidTests := true, laidLooks := .later }
def ValOrdersCardSaid : Prop := Claim7.holds Tryd.pinned (.plain (OpenSpec.ofChange valOrdersSpec)) valOrdersCard

/-- THE TIED CARD OF 'munimentlaw2.ValChain'. -/
def valChainCard : Claim7 := { stood := { row := valChainRow, standIns := [], harness := (true, "88f120a65a4437a9d52fff3155ec739a55b9e3c24b80f1883989d9ab44524e23"), looks := true }, kinds := [], alts := [], laidByText := true, laidKinds := [.data, .pinned], laidTests := true, laidLooks := .later }
def ValChainCardSaid : Prop := Claim7.holds Tryd.pinned (.plain (OpenSpec.ofChange valChainSpec)) valChainCard

/-- THE TIED CARD OF 'munimentlaw2.ValSizes'. -/
def valSizesCard : Claim7 := { stood := { row := valSizesRow, standIns := [], harness := (true, "88f120a65a4437a9d52fff3155ec739a55b9e3c24b80f1883989d9ab44524e23"), looks := true }, kinds := [], alts := [], laidByText := true, laidKinds := [.data, .pinned], laidTests := true, laidLooks := .later }
def ValSizesCardSaid : Prop := Claim7.holds Tryd.pinned (.plain (OpenSpec.ofChange valSizesSpec)) valSizesCard

/-- THE TIED CARD OF 'munimentlaw2.ValPaths'. -/
def valPathsCard : Claim7 := { stood := { row := valPathsRow, standIns := [], harness := (true, "88f120a65a4437a9d52fff3155ec739a55b9e3c24b80f1883989d9ab44524e23"), looks := true }, kinds := [], alts := [], laidByText := true, laidKinds := [.data, .pinned], laidTests := true, laidLooks := .later }
def ValPathsCardSaid : Prop := Claim7.holds Tryd.pinned (.plain (OpenSpec.ofChange valPathsSpec)) valPathsCard

/-- THE TIED CARD OF 'munimentlaw2.ValFields'. -/
def valFieldsCard : Claim7 := { stood := { row := valFieldsRow, standIns := [], harness := (true, "88f120a65a4437a9d52fff3155ec739a55b9e3c24b80f1883989d9ab44524e23"), looks := true }, kinds := [], alts := [], laidByText := true, laidKinds := [.data, .pinned], laidTests := true, laidLooks := .later }
def ValFieldsCardSaid : Prop := Claim7.holds Tryd.pinned (.plain (OpenSpec.ofChange valFieldsSpec)) valFieldsCard

/-- THE TIED CARD OF 'munimentlaw4.KeyOrders'. -/
def keyOrdersCard : Claim7 := { stood := { row := keyOrdersRow, standIns := [], harness := (true, "88f120a65a4437a9d52fff3155ec739a55b9e3c24b80f1883989d9ab44524e23"), looks := true }, kinds := [], alts := [], laidByText := true, laidKinds := [.data, .pinned], laidTests := true, laidLooks := .later }
def KeyOrdersCardSaid : Prop := Claim7.holds Tryd.pinned (.plain (OpenSpec.ofChange keyOrdersSpec)) keyOrdersCard

/-- THE TIED CARD OF 'munimentlaw4.KeyLists'. -/
def keyListsCard : Claim7 := { stood := { row := keyListsRow, standIns := [], harness := (true, "88f120a65a4437a9d52fff3155ec739a55b9e3c24b80f1883989d9ab44524e23"), looks := true }, kinds := [], alts := [], laidByText := true, laidKinds := [.data, .pinned], laidTests := true, laidLooks := .later }
def KeyListsCardSaid : Prop := Claim7.holds Tryd.pinned (.plain (OpenSpec.ofChange keyListsSpec)) keyListsCard

/-- THE TIED CARD OF 'munimentlaw2.ValKnown'. -/
def valKnownCard : Claim7 := { stood := { row := valKnownRow, standIns := [], harness := (true, "88f120a65a4437a9d52fff3155ec739a55b9e3c24b80f1883989d9ab44524e23"), looks := true }, kinds := [], alts := [], laidByText := true, laidKinds := [.data, .pinned], laidTests := true, laidLooks := .later }
def ValKnownCardSaid : Prop := Claim7.holds Tryd.pinned (.plain (OpenSpec.ofChange valKnownSpec)) valKnownCard

/-- THE SECOND FORM's CARD OF 'munimentlaw4.KeySingle'. -/
def keySingleUptoCard : Claim7 := { stood := { row := keySingleUptoRow, standIns := [], harness := (true, "88f120a65a4437a9d52fff3155ec739a55b9e3c24b80f1883989d9ab44524e23"), looks := true }, kinds := [], alts := [], laidByText := true, laidKinds := [.data, .pinned], laidTests := true, laidLooks := .later }
def KeySingleUptoCardSaid : Prop := Claim7.holds Tryd.pinned (.plain (OpenSpec.upto keySingleSpec)) keySingleUptoCard

/-- THE SECOND FORM's CARD OF 'munimentlaw4.KeyMany'. -/
def keyManyUptoCard : Claim7 := { stood := { row := keyManyUptoRow, standIns := [], harness := (true, "88f120a65a4437a9d52fff3155ec739a55b9e3c24b80f1883989d9ab44524e23"), looks := true }, kinds := [], alts := [], laidByText := true, laidKinds := [.data, .pinned], laidTests := true, laidLooks := .later }
def KeyManyUptoCardSaid : Prop := Claim7.holds Tryd.pinned (.plain (OpenSpec.upto keyManySpec)) keyManyUptoCard

/-- THE SECOND FORM's CARD OF 'munimentlaw4.KeyKept'. -/
def keyKeptUptoCard : Claim7 := { stood := { row := keyKeptUptoRow, standIns := [], harness := (true, "88f120a65a4437a9d52fff3155ec739a55b9e3c24b80f1883989d9ab44524e23"), looks := true }, kinds := [], alts := [], laidByText := true, laidKinds := [.data, .pinned], laidTests := true, laidLooks := .later }
def KeyKeptUptoCardSaid : Prop := Claim7.holds Tryd.pinned (.plain (OpenSpec.upto keyKeptSpec)) keyKeptUptoCard

/-- THE SECOND FORM's CARD OF 'munimentlaw19.WireMany'. -/
def wireManyUptoCard : Claim7 := { stood := { row := wireManyUptoRow, standIns := [], harness := (true, "88f120a65a4437a9d52fff3155ec739a55b9e3c24b80f1883989d9ab44524e23"), looks := true }, kinds := [], alts := [], laidByText := true, laidKinds := [.data, .pinned], laidTests := true, laidLooks := .later }
def WireManyUptoCardSaid : Prop := Claim7.holds Tryd.pinned (.plain (OpenSpec.upto wireManySpec)) wireManyUptoCard

/-- THE SECOND FORM's CARD OF 'munimentlaw2.ValOrders'. -/
def valOrdersUptoCard : Claim7 := { stood := { row := valOrdersUptoRow, standIns := [], harness := (true, "88f120a65a4437a9d52fff3155ec739a55b9e3c24b80f1883989d9ab44524e23"), looks := true }, kinds := [], alts := [], laidByText := true, laidKinds := [.data, .pinned], laidTests := true, laidLooks := .later }
def ValOrdersUptoCardSaid : Prop := Claim7.holds Tryd.pinned (.plain (OpenSpec.upto valOrdersSpec)) valOrdersUptoCard

/-- THE SECOND FORM's CARD OF 'munimentlaw2.ValChain'. -/
def valChainUptoCard : Claim7 := { stood := { row := valChainUptoRow, standIns := [], harness := (true, "88f120a65a4437a9d52fff3155ec739a55b9e3c24b80f1883989d9ab44524e23"), looks := true }, kinds := [], alts := [], laidByText := true, laidKinds := [.data, .pinned], laidTests := true, laidLooks := .later }
def ValChainUptoCardSaid : Prop := Claim7.holds Tryd.pinned (.plain (OpenSpec.upto valChainSpec)) valChainUptoCard

/-- THE SECOND FORM's CARD OF 'munimentlaw2.ValSizes'. -/
def valSizesUptoCard : Claim7 := { stood := { row := valSizesUptoRow, standIns := [], harness := (true, "88f120a65a4437a9d52fff3155ec739a55b9e3c24b80f1883989d9ab44524e23"), looks := true }, kinds := [], alts := [], laidByText := true, laidKinds := [.data, .pinned], laidTests := true, laidLooks := .later }
def ValSizesUptoCardSaid : Prop := Claim7.holds Tryd.pinned (.plain (OpenSpec.upto valSizesSpec)) valSizesUptoCard

/-- THE SECOND FORM's CARD OF 'munimentlaw2.ValPaths'. -/
def valPathsUptoCard : Claim7 := { stood := { row := valPathsUptoRow, standIns := [], harness := (true, "88f120a65a4437a9d52fff3155ec739a55b9e3c24b80f1883989d9ab44524e23"), looks := true }, kinds := [], alts := [], laidByText := true, laidKinds := [.data, .pinned], laidTests := true, laidLooks := .later }
def ValPathsUptoCardSaid : Prop := Claim7.holds Tryd.pinned (.plain (OpenSpec.upto valPathsSpec)) valPathsUptoCard

/-- THE SECOND FORM's CARD OF 'munimentlaw2.ValFields'. -/
def valFieldsUptoCard : Claim7 := { stood := { row := valFieldsUptoRow, standIns := [], harness := (true, "88f120a65a4437a9d52fff3155ec739a55b9e3c24b80f1883989d9ab44524e23"), looks := true }, kinds := [], alts := [], laidByText := true, laidKinds := [.data, .pinned], laidTests := true, laidLooks := .later }
def ValFieldsUptoCardSaid : Prop := Claim7.holds Tryd.pinned (.plain (OpenSpec.upto valFieldsSpec)) valFieldsUptoCard

/-- THE SECOND FORM's CARD OF 'munimentlaw4.KeyOrders'. -/
def keyOrdersUptoCard : Claim7 := { stood := { row := keyOrdersUptoRow, standIns := [], harness := (true, "88f120a65a4437a9d52fff3155ec739a55b9e3c24b80f1883989d9ab44524e23"), looks := true }, kinds := [], alts := [], laidByText := true, laidKinds := [.data, .pinned], laidTests := true, laidLooks := .later }
def KeyOrdersUptoCardSaid : Prop := Claim7.holds Tryd.pinned (.plain (OpenSpec.upto keyOrdersSpec)) keyOrdersUptoCard

/-- THE SECOND FORM's CARD OF 'munimentlaw4.KeyLists'. -/
def keyListsUptoCard : Claim7 := { stood := { row := keyListsUptoRow, standIns := [], harness := (true, "88f120a65a4437a9d52fff3155ec739a55b9e3c24b80f1883989d9ab44524e23"), looks := true }, kinds := [], alts := [], laidByText := true, laidKinds := [.data, .pinned], laidTests := true, laidLooks := .later }
def KeyListsUptoCardSaid : Prop := Claim7.holds Tryd.pinned (.plain (OpenSpec.upto keyListsSpec)) keyListsUptoCard

/-- THE SECOND FORM's CARD OF 'munimentlaw2.ValKnown'. -/
def valKnownUptoCard : Claim7 := { stood := { row := valKnownUptoRow, standIns := [], harness := (true, "88f120a65a4437a9d52fff3155ec739a55b9e3c24b80f1883989d9ab44524e23"), looks := true }, kinds := [], alts := [], laidByText := true, laidKinds := [.data, .pinned], laidTests := true, laidLooks := .later }
def ValKnownUptoCardSaid : Prop := Claim7.holds Tryd.pinned (.plain (OpenSpec.upto valKnownSpec)) valKnownUptoCard
end Rows
end Go.Proofs.YtpjhhkndfmcaoaaDoor
