/-
  DERIVED. GIVEN WITH THE SEED: THE CARDS: each row of YtcdbchifigonpaaDoorRows.lean that lists a variable, with what it lists TIED to the program's text (the seventh form; the later family's looks); each row that meets fmt, with fmt's text TOLD by the authors' own Lean function (tested against real Go, not proved from fmt's source: count such statements apart). THE CARD IS WHAT COUNTS. Prove the row's statement (the work); the ties are given (YtcdbchifigonpaaDoorTie.lean); close each card by the builder's one call (the guide's Derived/Test/ToyasCard.lean, 'card_holds'). Laid BY PROGRAM, IN A SANDBOX (cutbox-door.mjs). By AI agents, Wed Nov 11 2026. No macro, syntax, notation, axiom, sorry.
-/
import Derived.Test.YtcdbchifigonpaaDoorRows
import GoSem.ClaimSeven
namespace Go.Proofs.YtcdbchifigonpaaDoor
namespace Rows

/-- THE TIED CARD OF 'munimentlaw19.WireMany'. -/
def wireManyCard : Claim7 := { stood := { row := wireManyRow, standIns := [], harness := (true, "ecefe646dd4db927b9b768977c008d6bb67e5de730922e9c488573cdd27021ad"), looks := true }, kinds := [], alts := [], laidByText := true, laidKinds := [.data, .pinned], laidTests := true, laidLooks := .later }
def WireManyCardSaid : Prop := Claim7.holds Tryd.pinned (.plain (OpenSpec.ofChange wireManySpec)) wireManyCard

/-- THE TIED CARD OF 'munimentlaw2.ValSizes'. -/
def valSizesCard : Claim7 := { stood := { row := valSizesRow, standIns := [], harness := (true, "ecefe646dd4db927b9b768977c008d6bb67e5de730922e9c488573cdd27021ad"), looks := true }, kinds := [], alts := [], laidByText := true, laidKinds := [.data, .pinned], laidTests := true, laidLooks := .later }
def ValSizesCardSaid : Prop := Claim7.holds Tryd.pinned (.plain (OpenSpec.ofChange valSizesSpec)) valSizesCard

/-- THE TIED CARD OF 'munimentlaw2.ValFields'. -/
def valFieldsCard : Claim7 := { stood := { row := valFieldsRow, standIns := [], harness := (true, "ecefe646dd4db927b9b768977c008d6bb67e5de730922e9c488573cdd27021ad"), looks := true }, kinds := [], alts := [], laidByText := true, laidKinds := [.data, .pinned], laidTests := true, laidLooks := .later }
def ValFieldsCardSaid : Prop := Claim7.holds Tryd.pinned (.plain (OpenSpec.ofChange valFieldsSpec)) valFieldsCard

/-- THE TIED CARD OF 'munimentlaw2.ValKnown'. -/
def valKnownCard : Claim7 := { stood := { row := valKnownRow, standIns := [], harness := (true, "ecefe646dd4db927b9b768977c008d6bb67e5de730922e9c488573cdd27021ad"), looks := true }, kinds := [], alts := [], laidByText := true, laidKinds := [.data, .pinned], laidTests := true, laidLooks := .later }
def ValKnownCardSaid : Prop := Claim7.holds Tryd.pinned (.plain (OpenSpec.ofChange valKnownSpec)) valKnownCard

/-- THE SECOND FORM's CARD OF 'munimentlaw19.WireMany'. -/
def wireManyUptoCard : Claim7 := { stood := { row := wireManyUptoRow, standIns := [], harness := (true, "ecefe646dd4db927b9b768977c008d6bb67e5de730922e9c488573cdd27021ad"), looks := true }, kinds := [], alts := [], laidByText := true, laidKinds := [.data, .pinned], laidTests := true, laidLooks := .later }
def WireManyUptoCardSaid : Prop := Claim7.holds Tryd.pinned (.plain (OpenSpec.upto wireManySpec)) wireManyUptoCard

/-- THE SECOND FORM's CARD OF 'munimentlaw2.ValSizes'. -/
def valSizesUptoCard : Claim7 := { stood := { row := valSizesUptoRow, standIns := [], harness := (true, "ecefe646dd4db927b9b768977c008d6bb67e5de730922e9c488573cdd27021ad"), looks := true }, kinds := [], alts := [], laidByText := true, laidKinds := [.data, .pinned], laidTests := true, laidLooks := .later }
def ValSizesUptoCardSaid : Prop := Claim7.holds Tryd.pinned (.plain (OpenSpec.upto valSizesSpec)) valSizesUptoCard

/-- THE SECOND FORM's CARD OF 'munimentlaw2.ValFields'. -/
def valFieldsUptoCard : Claim7 := { stood := { row := valFieldsUptoRow, standIns := [], harness := (true, "ecefe646dd4db927b9b768977c008d6bb67e5de730922e9c488573cdd27021ad"), looks := true }, kinds := [], alts := [], laidByText := true, laidKinds := [.data, .pinned], laidTests := true, laidLooks := .later }
def ValFieldsUptoCardSaid : Prop := Claim7.holds Tryd.pinned (.plain (OpenSpec.upto valFieldsSpec)) valFieldsUptoCard

/-- THE SECOND FORM's CARD OF 'munimentlaw2.ValKnown'. -/
def valKnownUptoCard : Claim7 := { stood := { row := valKnownUptoRow, standIns := [], harness := (true, "ecefe646dd4db927b9b768977c008d6bb67e5de730922e9c488573cdd27021ad"), looks := true }, kinds := [], alts := [], laidByText := true, laidKinds := [.data, .pinned], laidTests := true, laidLooks := .later }
def ValKnownUptoCardSaid : Prop := Claim7.holds Tryd.pinned (.plain (OpenSpec.upto valKnownSpec)) valKnownUptoCard
end Rows
end Go.Proofs.YtcdbchifigonpaaDoor
