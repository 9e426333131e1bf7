/-
  NARROWER THAN 'FOR EVERY INPUT', by the rows' own cells (each row's printed sentence says how): WireMany: loops, laid · ValSizes: loops, laid · ValFields: loops, laid · ValKnown: laid.
  DERIVED. THE GIVEN ROWS OF THIS SEAT. 4 by the template 'for every input the law returns true; each argument reads behind the call as it read before'; 0 by the template 'total and deterministic' (their statements: YtcdbchifigonpaaDoorTotals.lean).
  GIVEN WITH THE SEED: the statements are not yours to turn. If you find one false, say at which input.
  Laid BY PROGRAM, IN A SANDBOX (cutbox-rows.mjs): the forced cells as the released guide's own fill.sh prints them over the translation 4c0f664fdacf7617… (all of the seat's roots in one cut). By AI agents, Wed Nov 11 2026. No macro, syntax, notation, axiom, sorry.
-/
import Derived.Test.YtcdbchifigonpaaDoorChecked
import GoSem.PinnedTables
import GoSem.Claim
import GoSem.ClaimJoined
import GoSem.ClaimMapViews
import Derived.JoinedTies
import Derived.KernelRfl
namespace Go.Proofs.YtcdbchifigonpaaDoor
/- THE CELL 'sum', in the pinned program and in every row, IS THE sha256 OF THE DUMP (.gsa) THAT YtcdbchifigonpaaDoorProg.lean LOADS. Nothing in Lean hashes anything: it is a label: what it is worth is what the hold of that sum in a sandbox is worth. -/
noncomputable def Tryd.pinned : Pinned := { name := "ytcdbchifigonpaadoor", sum := "4c0f664fdacf761758bda6f0c851cad93b064a7903e0bf263f388c1dd383bc6c", checked := Tryd.checked }
namespace Rows
def none {H : Type} : Left H := { results := [], args := [] }

/- WHAT THE LISTED PACKAGE-LEVEL VARIABLES READ AS WHEN THE CALL BEGINS. Each datum BY PROGRAM (the guide's laid-datum.mjs) off the statement by which the dump's own 'gosem.cut.vars' lays the variable. In a bare row this is a premise. The card (YtcdbchifigonpaaDoorCards.lean) ties it to the program's text. -/
def laid_unicode_utf8_acceptRanges {H : Type} : DataW H := .agg [.agg [.lit (.int .u8 128), .lit (.int .u8 191)], .agg [.lit (.int .u8 160), .lit (.int .u8 191)], .agg [.lit (.int .u8 128), .lit (.int .u8 159)], .agg [.lit (.int .u8 144), .lit (.int .u8 191)], .agg [.lit (.int .u8 128), .lit (.int .u8 143)], .agg [.lit (.int .u8 0), .lit (.int .u8 0)], .agg [.lit (.int .u8 0), .lit (.int .u8 0)], .agg [.lit (.int .u8 0), .lit (.int .u8 0)], .agg [.lit (.int .u8 0), .lit (.int .u8 0)], .agg [.lit (.int .u8 0), .lit (.int .u8 0)], .agg [.lit (.int .u8 0), .lit (.int .u8 0)], .agg [.lit (.int .u8 0), .lit (.int .u8 0)], .agg [.lit (.int .u8 0), .lit (.int .u8 0)], .agg [.lit (.int .u8 0), .lit (.int .u8 0)], .agg [.lit (.int .u8 0), .lit (.int .u8 0)], .agg [.lit (.int .u8 0), .lit (.int .u8 0)]]
/-- One of Go's own tables, pinned by name: the form's constant. -/
def laid_unicode_utf8_first : DataW Unit := Go.Pinned.utf8First

/-- 'munimentlaw19.WireMany': WHATEVER THE INPUT: true; the input reads as it did. -/
def wireManySpec : ChangeSpec := { name := "wireMany", fn := fun _ => fun
  | [d1, d2] => { results := [.lit (.bool true)], args := [d1, d2] }
  | _ => none }
def wireManyRow : OpenClaim := { program := "ytcdbchifigonpaadoor", sum := "4c0f664fdacf761758bda6f0c851cad93b064a7903e0bf263f388c1dd383bc6c", func := "muniment/munimentlaw19.WireMany", spec := "wireMany", unfollowed := true, recurses := true, named := ["unicode/utf8.first", "unicode/utf8.acceptRanges"], loops := true, apart := false, laid := [("unicode/utf8.acceptRanges", laid_unicode_utf8_acceptRanges), ("unicode/utf8.first", laid_unicode_utf8_first)] }
def WireManySaid : Prop := wireManyRow.holds Tryd.pinned (OpenSpec.ofChange wireManySpec)

/-- ITS FALSE NEIGHBOUR: 'it returns false'. Refute it at one input. -/
def wireManyWrong : ChangeSpec := { name := "wireMany", fn := fun _ => fun
  | [d1, d2] => { results := [.lit (.bool false)], args := [d1, d2] }
  | _ => none }
def WireManyWrongFalsely : Prop := wireManyRow.holds Tryd.pinned (OpenSpec.ofChange wireManyWrong)

/-- 'munimentlaw2.ValSizes': WHATEVER THE INPUT: true; the input reads as it did. -/
def valSizesSpec : ChangeSpec := { name := "valSizes", fn := fun _ => fun
  | [d1, d2] => { results := [.lit (.bool true)], args := [d1, d2] }
  | _ => none }
def valSizesRow : OpenClaim := { program := "ytcdbchifigonpaadoor", sum := "4c0f664fdacf761758bda6f0c851cad93b064a7903e0bf263f388c1dd383bc6c", func := "muniment/munimentlaw2.ValSizes", spec := "valSizes", inPlace := ["internal/bytealg.CountString", "internal/bytealg.IndexByteString", "internal/bytealg.IndexString"], unfollowed := true, recurses := true, named := ["unicode/utf8.first", "unicode/utf8.acceptRanges", "internal/bytealg.MaxLen"], loops := true, apart := false, laid := [("unicode/utf8.acceptRanges", laid_unicode_utf8_acceptRanges), ("unicode/utf8.first", laid_unicode_utf8_first)] }
def ValSizesSaid : Prop := valSizesRow.holds Tryd.pinned (OpenSpec.ofChange valSizesSpec)

/-- ITS FALSE NEIGHBOUR: 'it returns false'. Refute it at one input. -/
def valSizesWrong : ChangeSpec := { name := "valSizes", fn := fun _ => fun
  | [d1, d2] => { results := [.lit (.bool false)], args := [d1, d2] }
  | _ => none }
def ValSizesWrongFalsely : Prop := valSizesRow.holds Tryd.pinned (OpenSpec.ofChange valSizesWrong)

/-- 'munimentlaw2.ValFields': WHATEVER THE INPUT: true; the input reads as it did. -/
def valFieldsSpec : ChangeSpec := { name := "valFields", fn := fun _ => fun
  | [d1, d2, d3, d4] => { results := [.lit (.bool true)], args := [d1, d2, d3, d4] }
  | _ => none }
def valFieldsRow : OpenClaim := { program := "ytcdbchifigonpaadoor", sum := "4c0f664fdacf761758bda6f0c851cad93b064a7903e0bf263f388c1dd383bc6c", func := "muniment/munimentlaw2.ValFields", spec := "valFields", inPlace := ["internal/bytealg.CountString", "internal/bytealg.IndexByteString", "internal/bytealg.IndexString"], unfollowed := true, recurses := true, named := ["unicode/utf8.first", "unicode/utf8.acceptRanges", "internal/bytealg.MaxLen"], loops := true, apart := false, laid := [("unicode/utf8.acceptRanges", laid_unicode_utf8_acceptRanges), ("unicode/utf8.first", laid_unicode_utf8_first)] }
def ValFieldsSaid : Prop := valFieldsRow.holds Tryd.pinned (OpenSpec.ofChange valFieldsSpec)

/-- ITS FALSE NEIGHBOUR: 'it returns false'. Refute it at one input. -/
def valFieldsWrong : ChangeSpec := { name := "valFields", fn := fun _ => fun
  | [d1, d2, d3, d4] => { results := [.lit (.bool false)], args := [d1, d2, d3, d4] }
  | _ => none }
def ValFieldsWrongFalsely : Prop := valFieldsRow.holds Tryd.pinned (OpenSpec.ofChange valFieldsWrong)

/-- 'munimentlaw2.ValKnown': WHATEVER THE INPUT: true; the input reads as it did. -/
def valKnownSpec : ChangeSpec := { name := "valKnown", fn := fun _ => fun
  | [] => { results := [.lit (.bool true)], args := [] }
  | _ => none }
def valKnownRow : OpenClaim := { program := "ytcdbchifigonpaadoor", sum := "4c0f664fdacf761758bda6f0c851cad93b064a7903e0bf263f388c1dd383bc6c", func := "muniment/munimentlaw2.ValKnown", spec := "valKnown", inPlace := ["math.Float64frombits", "math.archFloor", "math.Float64bits", "math.archTrunc", "internal/bytealg.Compare", "internal/bytealg.abigen_runtime_cmpstring", "internal/bytealg.CountString", "internal/bytealg.IndexByteString", "internal/bytealg.IndexString"], unfollowed := true, recurses := true, named := ["unicode/utf8.first", "unicode/utf8.acceptRanges", "internal/bytealg.MaxLen"], apart := false, laid := [("unicode/utf8.acceptRanges", laid_unicode_utf8_acceptRanges), ("unicode/utf8.first", laid_unicode_utf8_first)] }
def ValKnownSaid : Prop := valKnownRow.holds Tryd.pinned (OpenSpec.ofChange valKnownSpec)

/-- ITS FALSE NEIGHBOUR: 'it returns false'. Refute it at one input. -/
def valKnownWrong : ChangeSpec := { name := "valKnown", fn := fun _ => fun
  | [] => { results := [.lit (.bool false)], args := [] }
  | _ => none }
def ValKnownWrongFalsely : Prop := valKnownRow.holds Tryd.pinned (OpenSpec.ofChange valKnownWrong)

/- THE SECOND FORM. 'bulk': how many values and letters a reading holds, each counted each time it is reached (what is shared counts as often as it is met; a slice's spare places count too). A statement '..UptoSaid' is the law's where the arguments, and the package variables that the reading takes, are together of bulk at most 1048576: NARROWER than '..Said'. Prove '..Said' where nothing that the law and all that it calls make is longer than what came in: it says more and counts as full. Else prove '..UptoSaid'. A law counts once. -/
mutual
def uptoBulk {H : Type} : DataW H → Nat
  | .lit (.string bytes) => bytes.length + 1
  | .lit _ => 1
  | .nil => 1
  | .ptr d => uptoBulk d + 1
  | .slice elems spare => uptoBulkAll elems + uptoBulkAll spare + 1
  | .agg parts => uptoBulkAll parts + 1
  | .iface _ d => uptoBulk d + 1
  | .map entries => uptoBulkEntries entries + 1
  | .held _ => 1
def uptoBulkAll {H : Type} : List (DataW H) → Nat
  | [] => 0
  | d :: r => uptoBulk d + uptoBulkAll r
def uptoBulkEntries {H : Type} : List (Lit × DataW H) → Nat
  | [] => 0
  | x :: r => uptoBulkEntry x + uptoBulkEntries r
def uptoBulkEntry {H : Type} : Lit × DataW H → Nat
  | (.string bytes, d) => bytes.length + uptoBulk d + 1
  | (_, d) => uptoBulk d + 1
 end
def uptoSmall : (H : Type) → List (DataW H) → Bool := fun _ ds => decide (uptoBulkAll ds ≤ 1048576)
def OpenSpec.upto (s : _root_.Go.ChangeSpec) : _root_.Go.OpenSpec := { _root_.Go.OpenSpec.ofChange s with cond := some uptoSmall }

/-- 'munimentlaw19.WireMany', WHERE WHAT IT READS IS OF BULK AT MOST 1048576: true; the input reads as it did. -/
def wireManyUptoRow : OpenClaim := { program := "ytcdbchifigonpaadoor", sum := "4c0f664fdacf761758bda6f0c851cad93b064a7903e0bf263f388c1dd383bc6c", func := "muniment/munimentlaw19.WireMany", spec := "wireMany", unfollowed := true, recurses := true, named := ["unicode/utf8.first", "unicode/utf8.acceptRanges"], loops := true, apart := false, laid := [("unicode/utf8.acceptRanges", laid_unicode_utf8_acceptRanges), ("unicode/utf8.first", laid_unicode_utf8_first)], narrowed := true }
def WireManyUptoSaid : Prop := wireManyUptoRow.holds Tryd.pinned (OpenSpec.upto wireManySpec)

/-- 'munimentlaw2.ValSizes', WHERE WHAT IT READS IS OF BULK AT MOST 1048576: true; the input reads as it did. -/
def valSizesUptoRow : OpenClaim := { program := "ytcdbchifigonpaadoor", sum := "4c0f664fdacf761758bda6f0c851cad93b064a7903e0bf263f388c1dd383bc6c", func := "muniment/munimentlaw2.ValSizes", spec := "valSizes", inPlace := ["internal/bytealg.CountString", "internal/bytealg.IndexByteString", "internal/bytealg.IndexString"], unfollowed := true, recurses := true, named := ["unicode/utf8.first", "unicode/utf8.acceptRanges", "internal/bytealg.MaxLen"], loops := true, apart := false, laid := [("unicode/utf8.acceptRanges", laid_unicode_utf8_acceptRanges), ("unicode/utf8.first", laid_unicode_utf8_first)], narrowed := true }
def ValSizesUptoSaid : Prop := valSizesUptoRow.holds Tryd.pinned (OpenSpec.upto valSizesSpec)

/-- 'munimentlaw2.ValFields', WHERE WHAT IT READS IS OF BULK AT MOST 1048576: true; the input reads as it did. -/
def valFieldsUptoRow : OpenClaim := { program := "ytcdbchifigonpaadoor", sum := "4c0f664fdacf761758bda6f0c851cad93b064a7903e0bf263f388c1dd383bc6c", func := "muniment/munimentlaw2.ValFields", spec := "valFields", inPlace := ["internal/bytealg.CountString", "internal/bytealg.IndexByteString", "internal/bytealg.IndexString"], unfollowed := true, recurses := true, named := ["unicode/utf8.first", "unicode/utf8.acceptRanges", "internal/bytealg.MaxLen"], loops := true, apart := false, laid := [("unicode/utf8.acceptRanges", laid_unicode_utf8_acceptRanges), ("unicode/utf8.first", laid_unicode_utf8_first)], narrowed := true }
def ValFieldsUptoSaid : Prop := valFieldsUptoRow.holds Tryd.pinned (OpenSpec.upto valFieldsSpec)

/-- 'munimentlaw2.ValKnown', WHERE WHAT IT READS IS OF BULK AT MOST 1048576: true; the input reads as it did. -/
def valKnownUptoRow : OpenClaim := { program := "ytcdbchifigonpaadoor", sum := "4c0f664fdacf761758bda6f0c851cad93b064a7903e0bf263f388c1dd383bc6c", func := "muniment/munimentlaw2.ValKnown", spec := "valKnown", inPlace := ["math.Float64frombits", "math.archFloor", "math.Float64bits", "math.archTrunc", "internal/bytealg.Compare", "internal/bytealg.abigen_runtime_cmpstring", "internal/bytealg.CountString", "internal/bytealg.IndexByteString", "internal/bytealg.IndexString"], unfollowed := true, recurses := true, named := ["unicode/utf8.first", "unicode/utf8.acceptRanges", "internal/bytealg.MaxLen"], apart := false, laid := [("unicode/utf8.acceptRanges", laid_unicode_utf8_acceptRanges), ("unicode/utf8.first", laid_unicode_utf8_first)], narrowed := true }
def ValKnownUptoSaid : Prop := valKnownUptoRow.holds Tryd.pinned (OpenSpec.upto valKnownSpec)

end Rows
end Go.Proofs.YtcdbchifigonpaaDoor
