/-
  NARROWER THAN 'FOR EVERY INPUT', by the rows' own cells (each row's printed sentence says how): PlainKnown: laid · PlainFinds: loops, laid · PlainIndexes: loops, laid · PlainOrdered: loops, laid · PlainEntries: loops, laid · PlainGets: loops, laid.
  DERIVED. THE GIVEN ROWS OF THIS SEAT. 6 by the template 'for every input the law returns true; each argument reads behind the call as it read before'; 0 by the template 'total and deterministic' (their statements: YtndjopkdbdcmdaaGreatDoorTotals.lean).
  GIVEN WITH THE SEED: the statements are not yours to turn. If you find one false, say at which input.
  Laid BY PROGRAM, IN A SANDBOX (cutbox-rows.mjs): the forced cells as the released guide's own fill.sh prints them over the translation c0b546111b7ea747… (all of the seat's roots in one cut). By AI agents, Wed Nov 11 2026. No macro, syntax, notation, axiom, sorry.
-/
import Derived.Test.YtndjopkdbdcmdaaGreatDoorChecked
import GoSem.PinnedTables
import GoSem.Claim
import GoSem.ClaimJoined
import GoSem.ClaimMapViews
import Derived.JoinedTies
import Derived.KernelRfl
namespace Go.Proofs.YtndjopkdbdcmdaaGreatDoor
/- THE CELL 'sum', in the pinned program and in every row, IS THE sha256 OF THE DUMP (.gsa) THAT YtndjopkdbdcmdaaGreatDoorProg.lean LOADS. Nothing in Lean hashes anything: it is a label: what it is worth is what the hold of that sum in a sandbox is worth. -/
noncomputable def Tryz.pinned : Pinned := { name := "ytndjopkdbdcmdaagreatdoor", sum := "c0b546111b7ea7476dae722cefa83f78cb73b6669da74b4c4083b593d9f7b1a8", checked := Tryz.checked }
namespace Rows
def none {H : Type} : Left H := { results := [], args := [] }

/- WHAT THE LISTED PACKAGE-LEVEL VARIABLES READ AS WHEN THE CALL BEGINS. Each datum BY PROGRAM (the guide's laid-datum.mjs) off the statement by which the dump's own 'gosem.cut.vars' lays the variable. In a bare row this is a premise. The card (YtndjopkdbdcmdaaGreatDoorCards.lean) ties it to the program's text. -/
def laid_unicode_utf8_acceptRanges {H : Type} : DataW H := .agg [.agg [.lit (.int .u8 128), .lit (.int .u8 191)], .agg [.lit (.int .u8 160), .lit (.int .u8 191)], .agg [.lit (.int .u8 128), .lit (.int .u8 159)], .agg [.lit (.int .u8 144), .lit (.int .u8 191)], .agg [.lit (.int .u8 128), .lit (.int .u8 143)], .agg [.lit (.int .u8 0), .lit (.int .u8 0)], .agg [.lit (.int .u8 0), .lit (.int .u8 0)], .agg [.lit (.int .u8 0), .lit (.int .u8 0)], .agg [.lit (.int .u8 0), .lit (.int .u8 0)], .agg [.lit (.int .u8 0), .lit (.int .u8 0)], .agg [.lit (.int .u8 0), .lit (.int .u8 0)], .agg [.lit (.int .u8 0), .lit (.int .u8 0)], .agg [.lit (.int .u8 0), .lit (.int .u8 0)], .agg [.lit (.int .u8 0), .lit (.int .u8 0)], .agg [.lit (.int .u8 0), .lit (.int .u8 0)], .agg [.lit (.int .u8 0), .lit (.int .u8 0)]]
/-- One of Go's own tables, pinned by name: the form's constant. -/
def laid_unicode_utf8_first : DataW Unit := Go.Pinned.utf8First

/-- 'munimentlaw15.PlainKnown': WHATEVER THE INPUT: true; the input reads as it did. -/
def plainKnownSpec : ChangeSpec := { name := "plainKnown", fn := fun _ => fun
  | [] => { results := [.lit (.bool true)], args := [] }
  | _ => none }
def plainKnownRow : OpenClaim := { program := "ytndjopkdbdcmdaagreatdoor", sum := "c0b546111b7ea7476dae722cefa83f78cb73b6669da74b4c4083b593d9f7b1a8", func := "muniment/munimentlaw15.PlainKnown", spec := "plainKnown", inPlace := ["internal/bytealg.abigen_runtime_cmpstring", "slices.overlaps[muniment/api.Coll]", "math.Float64frombits", "math.Float64bits", "internal/bytealg.CountString", "internal/bytealg.IndexByteString", "internal/bytealg.IndexString", "internal/bytealg.Compare", "slices.overlaps[muniment/api.Val]", "slices.overlaps[muniment/api.IndexDef]", "math.archFloor", "math.archTrunc"], unfollowed := true, recurses := true, named := ["unicode/utf8.first", "unicode/utf8.acceptRanges", "internal/bytealg.MaxLen"], apart := false, laid := [("unicode/utf8.acceptRanges", laid_unicode_utf8_acceptRanges), ("unicode/utf8.first", laid_unicode_utf8_first)] }
def PlainKnownSaid : Prop := plainKnownRow.holds Tryz.pinned (OpenSpec.ofChange plainKnownSpec)

/-- ITS FALSE NEIGHBOUR: 'it returns false'. Refute it at one input. -/
def plainKnownWrong : ChangeSpec := { name := "plainKnown", fn := fun _ => fun
  | [] => { results := [.lit (.bool false)], args := [] }
  | _ => none }
def PlainKnownWrongFalsely : Prop := plainKnownRow.holds Tryz.pinned (OpenSpec.ofChange plainKnownWrong)

/-- 'munimentlaw15.PlainFinds': WHATEVER THE INPUT: true; the input reads as it did. -/
def plainFindsSpec : ChangeSpec := { name := "plainFinds", fn := fun _ => fun
  | [d1, d2, d3, d4] => { results := [.lit (.bool true)], args := [d1, d2, d3, d4] }
  | _ => none }
def plainFindsRow : OpenClaim := { program := "ytndjopkdbdcmdaagreatdoor", sum := "c0b546111b7ea7476dae722cefa83f78cb73b6669da74b4c4083b593d9f7b1a8", func := "muniment/munimentlaw15.PlainFinds", spec := "plainFinds", inPlace := ["internal/bytealg.abigen_runtime_cmpstring", "slices.overlaps[muniment/api.Coll]", "math.Float64frombits", "math.Float64bits", "internal/bytealg.CountString", "internal/bytealg.IndexByteString", "internal/bytealg.IndexString", "internal/bytealg.Compare", "slices.overlaps[muniment/api.Val]", "slices.overlaps[muniment/api.IndexDef]", "math.archFloor", "math.archTrunc"], unfollowed := true, recurses := true, named := ["unicode/utf8.first", "unicode/utf8.acceptRanges", "internal/bytealg.MaxLen"], loops := true, apart := false, laid := [("unicode/utf8.acceptRanges", laid_unicode_utf8_acceptRanges), ("unicode/utf8.first", laid_unicode_utf8_first)] }
def PlainFindsSaid : Prop := plainFindsRow.holds Tryz.pinned (OpenSpec.ofChange plainFindsSpec)

/-- ITS FALSE NEIGHBOUR: 'it returns false'. Refute it at one input. -/
def plainFindsWrong : ChangeSpec := { name := "plainFinds", fn := fun _ => fun
  | [d1, d2, d3, d4] => { results := [.lit (.bool false)], args := [d1, d2, d3, d4] }
  | _ => none }
def PlainFindsWrongFalsely : Prop := plainFindsRow.holds Tryz.pinned (OpenSpec.ofChange plainFindsWrong)

/-- 'munimentlaw15.PlainIndexes': WHATEVER THE INPUT: true; the input reads as it did. -/
def plainIndexesSpec : ChangeSpec := { name := "plainIndexes", fn := fun _ => fun
  | [d1, d2] => { results := [.lit (.bool true)], args := [d1, d2] }
  | _ => none }
def plainIndexesRow : OpenClaim := { program := "ytndjopkdbdcmdaagreatdoor", sum := "c0b546111b7ea7476dae722cefa83f78cb73b6669da74b4c4083b593d9f7b1a8", func := "muniment/munimentlaw15.PlainIndexes", spec := "plainIndexes", inPlace := ["internal/bytealg.abigen_runtime_cmpstring", "slices.overlaps[muniment/api.Coll]", "math.Float64frombits", "math.Float64bits", "internal/bytealg.CountString", "internal/bytealg.IndexByteString", "internal/bytealg.IndexString", "internal/bytealg.Compare", "slices.overlaps[muniment/api.Val]", "slices.overlaps[muniment/api.IndexDef]", "math.archFloor", "math.archTrunc"], unfollowed := true, recurses := true, named := ["unicode/utf8.first", "unicode/utf8.acceptRanges", "internal/bytealg.MaxLen"], loops := true, apart := false, laid := [("unicode/utf8.acceptRanges", laid_unicode_utf8_acceptRanges), ("unicode/utf8.first", laid_unicode_utf8_first)] }
def PlainIndexesSaid : Prop := plainIndexesRow.holds Tryz.pinned (OpenSpec.ofChange plainIndexesSpec)

/-- ITS FALSE NEIGHBOUR: 'it returns false'. Refute it at one input. -/
def plainIndexesWrong : ChangeSpec := { name := "plainIndexes", fn := fun _ => fun
  | [d1, d2] => { results := [.lit (.bool false)], args := [d1, d2] }
  | _ => none }
def PlainIndexesWrongFalsely : Prop := plainIndexesRow.holds Tryz.pinned (OpenSpec.ofChange plainIndexesWrong)

/-- 'munimentlaw15.PlainOrdered': WHATEVER THE INPUT: true; the input reads as it did. -/
def plainOrderedSpec : ChangeSpec := { name := "plainOrdered", fn := fun _ => fun
  | [d] => { results := [.lit (.bool true)], args := [d] }
  | _ => none }
def plainOrderedRow : OpenClaim := { program := "ytndjopkdbdcmdaagreatdoor", sum := "c0b546111b7ea7476dae722cefa83f78cb73b6669da74b4c4083b593d9f7b1a8", func := "muniment/munimentlaw15.PlainOrdered", spec := "plainOrdered", inPlace := ["internal/bytealg.abigen_runtime_cmpstring", "slices.overlaps[muniment/api.Coll]", "math.Float64frombits", "math.Float64bits", "internal/bytealg.CountString", "internal/bytealg.IndexByteString", "internal/bytealg.IndexString", "internal/bytealg.Compare", "slices.overlaps[muniment/api.Val]", "slices.overlaps[muniment/api.IndexDef]", "math.archFloor", "math.archTrunc"], unfollowed := true, recurses := true, named := ["unicode/utf8.first", "unicode/utf8.acceptRanges", "internal/bytealg.MaxLen"], loops := true, apart := false, laid := [("unicode/utf8.acceptRanges", laid_unicode_utf8_acceptRanges), ("unicode/utf8.first", laid_unicode_utf8_first)] }
def PlainOrderedSaid : Prop := plainOrderedRow.holds Tryz.pinned (OpenSpec.ofChange plainOrderedSpec)

/-- ITS FALSE NEIGHBOUR: 'it returns false'. Refute it at one input. -/
def plainOrderedWrong : ChangeSpec := { name := "plainOrdered", fn := fun _ => fun
  | [d] => { results := [.lit (.bool false)], args := [d] }
  | _ => none }
def PlainOrderedWrongFalsely : Prop := plainOrderedRow.holds Tryz.pinned (OpenSpec.ofChange plainOrderedWrong)

/-- 'munimentlaw15.PlainEntries': WHATEVER THE INPUT: true; the input reads as it did. -/
def plainEntriesSpec : ChangeSpec := { name := "plainEntries", fn := fun _ => fun
  | [d1, d2, d3] => { results := [.lit (.bool true)], args := [d1, d2, d3] }
  | _ => none }
def plainEntriesRow : OpenClaim := { program := "ytndjopkdbdcmdaagreatdoor", sum := "c0b546111b7ea7476dae722cefa83f78cb73b6669da74b4c4083b593d9f7b1a8", func := "muniment/munimentlaw15.PlainEntries", spec := "plainEntries", inPlace := ["internal/bytealg.abigen_runtime_cmpstring", "slices.overlaps[muniment/api.Coll]", "math.Float64frombits", "math.Float64bits", "internal/bytealg.CountString", "internal/bytealg.IndexByteString", "internal/bytealg.IndexString", "internal/bytealg.Compare", "slices.overlaps[muniment/api.Val]", "slices.overlaps[muniment/api.IndexDef]", "math.archFloor", "math.archTrunc"], unfollowed := true, recurses := true, named := ["unicode/utf8.first", "unicode/utf8.acceptRanges", "internal/bytealg.MaxLen"], loops := true, apart := false, laid := [("unicode/utf8.acceptRanges", laid_unicode_utf8_acceptRanges), ("unicode/utf8.first", laid_unicode_utf8_first)] }
def PlainEntriesSaid : Prop := plainEntriesRow.holds Tryz.pinned (OpenSpec.ofChange plainEntriesSpec)

/-- ITS FALSE NEIGHBOUR: 'it returns false'. Refute it at one input. -/
def plainEntriesWrong : ChangeSpec := { name := "plainEntries", fn := fun _ => fun
  | [d1, d2, d3] => { results := [.lit (.bool false)], args := [d1, d2, d3] }
  | _ => none }
def PlainEntriesWrongFalsely : Prop := plainEntriesRow.holds Tryz.pinned (OpenSpec.ofChange plainEntriesWrong)

/-- 'munimentlaw15.PlainGets': WHATEVER THE INPUT: true; the input reads as it did. -/
def plainGetsSpec : ChangeSpec := { name := "plainGets", fn := fun _ => fun
  | [d1, d2, d3, d4] => { results := [.lit (.bool true)], args := [d1, d2, d3, d4] }
  | _ => none }
def plainGetsRow : OpenClaim := { program := "ytndjopkdbdcmdaagreatdoor", sum := "c0b546111b7ea7476dae722cefa83f78cb73b6669da74b4c4083b593d9f7b1a8", func := "muniment/munimentlaw15.PlainGets", spec := "plainGets", inPlace := ["internal/bytealg.abigen_runtime_cmpstring", "slices.overlaps[muniment/api.Coll]", "math.Float64frombits", "math.Float64bits", "internal/bytealg.CountString", "internal/bytealg.IndexByteString", "internal/bytealg.IndexString", "internal/bytealg.Compare", "slices.overlaps[muniment/api.Val]", "slices.overlaps[muniment/api.IndexDef]", "math.archFloor", "math.archTrunc"], unfollowed := true, recurses := true, named := ["unicode/utf8.first", "unicode/utf8.acceptRanges", "internal/bytealg.MaxLen"], loops := true, apart := false, laid := [("unicode/utf8.acceptRanges", laid_unicode_utf8_acceptRanges), ("unicode/utf8.first", laid_unicode_utf8_first)] }
def PlainGetsSaid : Prop := plainGetsRow.holds Tryz.pinned (OpenSpec.ofChange plainGetsSpec)

/-- ITS FALSE NEIGHBOUR: 'it returns false'. Refute it at one input. -/
def plainGetsWrong : ChangeSpec := { name := "plainGets", fn := fun _ => fun
  | [d1, d2, d3, d4] => { results := [.lit (.bool false)], args := [d1, d2, d3, d4] }
  | _ => none }
def PlainGetsWrongFalsely : Prop := plainGetsRow.holds Tryz.pinned (OpenSpec.ofChange plainGetsWrong)

/- THE SECOND FORM. 'bulk': how many values and letters a reading holds, each counted each time it is reached (what is shared counts as often as it is met; a slice's spare places count too). A statement '..UptoSaid' is the law's where the arguments, and the package variables that the reading takes, are together of bulk at most 1048576: NARROWER than '..Said'. Prove '..Said' where nothing that the law and all that it calls make is longer than what came in: it says more and counts as full. Else prove '..UptoSaid'. A law counts once. -/
mutual
def uptoBulk {H : Type} : DataW H → Nat
  | .lit (.string bytes) => bytes.length + 1
  | .lit _ => 1
  | .nil => 1
  | .ptr d => uptoBulk d + 1
  | .slice elems spare => uptoBulkAll elems + uptoBulkAll spare + 1
  | .agg parts => uptoBulkAll parts + 1
  | .iface _ d => uptoBulk d + 1
  | .map entries => uptoBulkEntries entries + 1
  | .held _ => 1
def uptoBulkAll {H : Type} : List (DataW H) → Nat
  | [] => 0
  | d :: r => uptoBulk d + uptoBulkAll r
def uptoBulkEntries {H : Type} : List (Lit × DataW H) → Nat
  | [] => 0
  | x :: r => uptoBulkEntry x + uptoBulkEntries r
def uptoBulkEntry {H : Type} : Lit × DataW H → Nat
  | (.string bytes, d) => bytes.length + uptoBulk d + 1
  | (_, d) => uptoBulk d + 1
 end
def uptoSmall : (H : Type) → List (DataW H) → Bool := fun _ ds => decide (uptoBulkAll ds ≤ 1048576)
def OpenSpec.upto (s : _root_.Go.ChangeSpec) : _root_.Go.OpenSpec := { _root_.Go.OpenSpec.ofChange s with cond := some uptoSmall }

/-- 'munimentlaw15.PlainKnown', WHERE WHAT IT READS IS OF BULK AT MOST 1048576: true; the input reads as it did. -/
def plainKnownUptoRow : OpenClaim := { program := "ytndjopkdbdcmdaagreatdoor", sum := "c0b546111b7ea7476dae722cefa83f78cb73b6669da74b4c4083b593d9f7b1a8", func := "muniment/munimentlaw15.PlainKnown", spec := "plainKnown", inPlace := ["internal/bytealg.abigen_runtime_cmpstring", "slices.overlaps[muniment/api.Coll]", "math.Float64frombits", "math.Float64bits", "internal/bytealg.CountString", "internal/bytealg.IndexByteString", "internal/bytealg.IndexString", "internal/bytealg.Compare", "slices.overlaps[muniment/api.Val]", "slices.overlaps[muniment/api.IndexDef]", "math.archFloor", "math.archTrunc"], unfollowed := true, recurses := true, named := ["unicode/utf8.first", "unicode/utf8.acceptRanges", "internal/bytealg.MaxLen"], apart := false, laid := [("unicode/utf8.acceptRanges", laid_unicode_utf8_acceptRanges), ("unicode/utf8.first", laid_unicode_utf8_first)], narrowed := true }
def PlainKnownUptoSaid : Prop := plainKnownUptoRow.holds Tryz.pinned (OpenSpec.upto plainKnownSpec)

/-- 'munimentlaw15.PlainFinds', WHERE WHAT IT READS IS OF BULK AT MOST 1048576: true; the input reads as it did. -/
def plainFindsUptoRow : OpenClaim := { program := "ytndjopkdbdcmdaagreatdoor", sum := "c0b546111b7ea7476dae722cefa83f78cb73b6669da74b4c4083b593d9f7b1a8", func := "muniment/munimentlaw15.PlainFinds", spec := "plainFinds", inPlace := ["internal/bytealg.abigen_runtime_cmpstring", "slices.overlaps[muniment/api.Coll]", "math.Float64frombits", "math.Float64bits", "internal/bytealg.CountString", "internal/bytealg.IndexByteString", "internal/bytealg.IndexString", "internal/bytealg.Compare", "slices.overlaps[muniment/api.Val]", "slices.overlaps[muniment/api.IndexDef]", "math.archFloor", "math.archTrunc"], unfollowed := true, recurses := true, named := ["unicode/utf8.first", "unicode/utf8.acceptRanges", "internal/bytealg.MaxLen"], loops := true, apart := false, laid := [("unicode/utf8.acceptRanges", laid_unicode_utf8_acceptRanges), ("unicode/utf8.first", laid_unicode_utf8_first)], narrowed := true }
def PlainFindsUptoSaid : Prop := plainFindsUptoRow.holds Tryz.pinned (OpenSpec.upto plainFindsSpec)

/-- 'munimentlaw15.PlainIndexes', WHERE WHAT IT READS IS OF BULK AT MOST 1048576: true; the input reads as it did. -/
def plainIndexesUptoRow : OpenClaim := { program := "ytndjopkdbdcmdaagreatdoor", sum := "c0b546111b7ea7476dae722cefa83f78cb73b6669da74b4c4083b593d9f7b1a8", func := "muniment/munimentlaw15.PlainIndexes", spec := "plainIndexes", inPlace := ["internal/bytealg.abigen_runtime_cmpstring", "slices.overlaps[muniment/api.Coll]", "math.Float64frombits", "math.Float64bits", "internal/bytealg.CountString", "internal/bytealg.IndexByteString", "internal/bytealg.IndexString", "internal/bytealg.Compare", "slices.overlaps[muniment/api.Val]", "slices.overlaps[muniment/api.IndexDef]", "math.archFloor", "math.archTrunc"], unfollowed := true, recurses := true, named := ["unicode/utf8.first", "unicode/utf8.acceptRanges", "internal/bytealg.MaxLen"], loops := true, apart := false, laid := [("unicode/utf8.acceptRanges", laid_unicode_utf8_acceptRanges), ("unicode/utf8.first", laid_unicode_utf8_first)], narrowed := true }
def PlainIndexesUptoSaid : Prop := plainIndexesUptoRow.holds Tryz.pinned (OpenSpec.upto plainIndexesSpec)

/-- 'munimentlaw15.PlainOrdered', WHERE WHAT IT READS IS OF BULK AT MOST 1048576: true; the input reads as it did. -/
def plainOrderedUptoRow : OpenClaim := { program := "ytndjopkdbdcmdaagreatdoor", sum := "c0b546111b7ea7476dae722cefa83f78cb73b6669da74b4c4083b593d9f7b1a8", func := "muniment/munimentlaw15.PlainOrdered", spec := "plainOrdered", inPlace := ["internal/bytealg.abigen_runtime_cmpstring", "slices.overlaps[muniment/api.Coll]", "math.Float64frombits", "math.Float64bits", "internal/bytealg.CountString", "internal/bytealg.IndexByteString", "internal/bytealg.IndexString", "internal/bytealg.Compare", "slices.overlaps[muniment/api.Val]", "slices.overlaps[muniment/api.IndexDef]", "math.archFloor", "math.archTrunc"], unfollowed := true, recurses := true, named := ["unicode/utf8.first", "unicode/utf8.acceptRanges", "internal/bytealg.MaxLen"], loops := true, apart := false, laid := [("unicode/utf8.acceptRanges", laid_unicode_utf8_acceptRanges), ("unicode/utf8.first", laid_unicode_utf8_first)], narrowed := true }
def PlainOrderedUptoSaid : Prop := plainOrderedUptoRow.holds Tryz.pinned (OpenSpec.upto plainOrderedSpec)

/-- 'munimentlaw15.PlainEntries', WHERE WHAT IT READS IS OF BULK AT MOST 1048576: true; the input reads as it did. -/
def plainEntriesUptoRow : OpenClaim := { program := "ytndjopkdbdcmdaagreatdoor", sum := "c0b546111b7ea7476dae722cefa83f78cb73b6669da74b4c4083b593d9f7b1a8", func := "muniment/munimentlaw15.PlainEntries", spec := "plainEntries", inPlace := ["internal/bytealg.abigen_runtime_cmpstring", "slices.overlaps[muniment/api.Coll]", "math.Float64frombits", "math.Float64bits", "internal/bytealg.CountString", "internal/bytealg.IndexByteString", "internal/bytealg.IndexString", "internal/bytealg.Compare", "slices.overlaps[muniment/api.Val]", "slices.overlaps[muniment/api.IndexDef]", "math.archFloor", "math.archTrunc"], unfollowed := true, recurses := true, named := ["unicode/utf8.first", "unicode/utf8.acceptRanges", "internal/bytealg.MaxLen"], loops := true, apart := false, laid := [("unicode/utf8.acceptRanges", laid_unicode_utf8_acceptRanges), ("unicode/utf8.first", laid_unicode_utf8_first)], narrowed := true }
def PlainEntriesUptoSaid : Prop := plainEntriesUptoRow.holds Tryz.pinned (OpenSpec.upto plainEntriesSpec)

/-- 'munimentlaw15.PlainGets', WHERE WHAT IT READS IS OF BULK AT MOST 1048576: true; the input reads as it did. -/
def plainGetsUptoRow : OpenClaim := { program := "ytndjopkdbdcmdaagreatdoor", sum := "c0b546111b7ea7476dae722cefa83f78cb73b6669da74b4c4083b593d9f7b1a8", func := "muniment/munimentlaw15.PlainGets", spec := "plainGets", inPlace := ["internal/bytealg.abigen_runtime_cmpstring", "slices.overlaps[muniment/api.Coll]", "math.Float64frombits", "math.Float64bits", "internal/bytealg.CountString", "internal/bytealg.IndexByteString", "internal/bytealg.IndexString", "internal/bytealg.Compare", "slices.overlaps[muniment/api.Val]", "slices.overlaps[muniment/api.IndexDef]", "math.archFloor", "math.archTrunc"], unfollowed := true, recurses := true, named := ["unicode/utf8.first", "unicode/utf8.acceptRanges", "internal/bytealg.MaxLen"], loops := true, apart := false, laid := [("unicode/utf8.acceptRanges", laid_unicode_utf8_acceptRanges), ("unicode/utf8.first", laid_unicode_utf8_first)], narrowed := true }
def PlainGetsUptoSaid : Prop := plainGetsUptoRow.holds Tryz.pinned (OpenSpec.upto plainGetsSpec)

end Rows
end Go.Proofs.YtndjopkdbdcmdaaGreatDoor
