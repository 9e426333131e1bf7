/-
  NARROWER THAN 'FOR EVERY INPUT', by the rows' own cells (each row's printed sentence says how): ValReads: laid · ValBack: loops, laid · ValKept: loops, laid · ValDeep: laid · ValWrites: loops, laid · ValOrders: loops, laid · ValChain: loops, laid · ValSizes: loops, laid · ValPaths: loops, laid · ValFields: loops, laid · ValKnown: laid.
  DERIVED. THE GIVEN ROWS OF THIS SEAT. 11 by the template 'for every input the law returns true; each argument reads behind the call as it read before'; 0 by the template 'total and deterministic' (their statements: YtkgjfkpabdlgbaaDoorTotals.lean).
  GIVEN WITH THE SEED: the statements are not yours to turn. If you find one false, say at which input.
  Laid BY PROGRAM, IN A SANDBOX (cutbox-rows.mjs): the forced cells as the released guide's own fill.sh prints them over the translation 309a77e15bfbbf6f… (all of the seat's roots in one cut). By AI agents, Wed Nov 11 2026. No macro, syntax, notation, axiom, sorry.
-/
import Derived.Test.YtkgjfkpabdlgbaaDoorChecked
import GoSem.PinnedTables
import GoSem.Claim
import GoSem.ClaimJoined
import GoSem.ClaimMapViews
import Derived.JoinedTies
import Derived.KernelRfl
namespace Go.Proofs.YtkgjfkpabdlgbaaDoor
/- THE CELL 'sum', in the pinned program and in every row, IS THE sha256 OF THE DUMP (.gsa) THAT YtkgjfkpabdlgbaaDoorProg.lean LOADS. Nothing in Lean hashes anything: it is a label: what it is worth is what the hold of that sum in a sandbox is worth. -/
noncomputable def Tryd.pinned : Pinned := { name := "ytkgjfkpabdlgbaadoor", sum := "309a77e15bfbbf6f480cffd3c13016fecaee20fa85c9a79f75b8bd3092b45469", checked := Tryd.checked }
namespace Rows
def none {H : Type} : Left H := { results := [], args := [] }

/- WHAT THE LISTED PACKAGE-LEVEL VARIABLES READ AS WHEN THE CALL BEGINS. Each datum BY PROGRAM (the guide's laid-datum.mjs) off the statement by which the dump's own 'gosem.cut.vars' lays the variable. In a bare row this is a premise. The card (YtkgjfkpabdlgbaaDoorCards.lean) ties it to the program's text. -/
def laid_unicode_utf8_acceptRanges {H : Type} : DataW H := .agg [.agg [.lit (.int .u8 128), .lit (.int .u8 191)], .agg [.lit (.int .u8 160), .lit (.int .u8 191)], .agg [.lit (.int .u8 128), .lit (.int .u8 159)], .agg [.lit (.int .u8 144), .lit (.int .u8 191)], .agg [.lit (.int .u8 128), .lit (.int .u8 143)], .agg [.lit (.int .u8 0), .lit (.int .u8 0)], .agg [.lit (.int .u8 0), .lit (.int .u8 0)], .agg [.lit (.int .u8 0), .lit (.int .u8 0)], .agg [.lit (.int .u8 0), .lit (.int .u8 0)], .agg [.lit (.int .u8 0), .lit (.int .u8 0)], .agg [.lit (.int .u8 0), .lit (.int .u8 0)], .agg [.lit (.int .u8 0), .lit (.int .u8 0)], .agg [.lit (.int .u8 0), .lit (.int .u8 0)], .agg [.lit (.int .u8 0), .lit (.int .u8 0)], .agg [.lit (.int .u8 0), .lit (.int .u8 0)], .agg [.lit (.int .u8 0), .lit (.int .u8 0)]]
/-- One of Go's own tables, pinned by name: the form's constant. -/
def laid_unicode_utf8_first : DataW Unit := Go.Pinned.utf8First

/-- 'munimentlaw2.ValReads': WHATEVER THE INPUT: true; the input reads as it did. -/
def valReadsSpec : ChangeSpec := { name := "valReads", fn := fun _ => fun
  | [d] => { results := [.lit (.bool true)], args := [d] }
  | _ => none }
def valReadsRow : OpenClaim := { program := "ytkgjfkpabdlgbaadoor", sum := "309a77e15bfbbf6f480cffd3c13016fecaee20fa85c9a79f75b8bd3092b45469", func := "muniment/munimentlaw2.ValReads", spec := "valReads", unfollowed := true, recurses := true, named := ["unicode/utf8.first", "unicode/utf8.acceptRanges"], apart := false, laid := [("unicode/utf8.acceptRanges", laid_unicode_utf8_acceptRanges), ("unicode/utf8.first", laid_unicode_utf8_first)] }
def ValReadsSaid : Prop := valReadsRow.holds Tryd.pinned (OpenSpec.ofChange valReadsSpec)

/-- ITS FALSE NEIGHBOUR: 'it returns false'. Refute it at one input. -/
def valReadsWrong : ChangeSpec := { name := "valReads", fn := fun _ => fun
  | [d] => { results := [.lit (.bool false)], args := [d] }
  | _ => none }
def ValReadsWrongFalsely : Prop := valReadsRow.holds Tryd.pinned (OpenSpec.ofChange valReadsWrong)

/-- 'munimentlaw2.ValBack': WHATEVER THE INPUT: true; the input reads as it did. -/
def valBackSpec : ChangeSpec := { name := "valBack", fn := fun _ => fun
  | [d1, d2] => { results := [.lit (.bool true)], args := [d1, d2] }
  | _ => none }
def valBackRow : OpenClaim := { program := "ytkgjfkpabdlgbaadoor", sum := "309a77e15bfbbf6f480cffd3c13016fecaee20fa85c9a79f75b8bd3092b45469", func := "muniment/munimentlaw2.ValBack", spec := "valBack", unfollowed := true, recurses := true, named := ["unicode/utf8.first", "unicode/utf8.acceptRanges"], loops := true, apart := false, laid := [("unicode/utf8.acceptRanges", laid_unicode_utf8_acceptRanges), ("unicode/utf8.first", laid_unicode_utf8_first)] }
def ValBackSaid : Prop := valBackRow.holds Tryd.pinned (OpenSpec.ofChange valBackSpec)

/-- ITS FALSE NEIGHBOUR: 'it returns false'. Refute it at one input. -/
def valBackWrong : ChangeSpec := { name := "valBack", fn := fun _ => fun
  | [d1, d2] => { results := [.lit (.bool false)], args := [d1, d2] }
  | _ => none }
def ValBackWrongFalsely : Prop := valBackRow.holds Tryd.pinned (OpenSpec.ofChange valBackWrong)

/-- 'munimentlaw2.ValKept': WHATEVER THE INPUT: true; the input reads as it did. -/
def valKeptSpec : ChangeSpec := { name := "valKept", fn := fun _ => fun
  | [d1, d2] => { results := [.lit (.bool true)], args := [d1, d2] }
  | _ => none }
def valKeptRow : OpenClaim := { program := "ytkgjfkpabdlgbaadoor", sum := "309a77e15bfbbf6f480cffd3c13016fecaee20fa85c9a79f75b8bd3092b45469", func := "muniment/munimentlaw2.ValKept", spec := "valKept", unfollowed := true, recurses := true, named := ["unicode/utf8.first", "unicode/utf8.acceptRanges"], loops := true, apart := false, laid := [("unicode/utf8.acceptRanges", laid_unicode_utf8_acceptRanges), ("unicode/utf8.first", laid_unicode_utf8_first)] }
def ValKeptSaid : Prop := valKeptRow.holds Tryd.pinned (OpenSpec.ofChange valKeptSpec)

/-- ITS FALSE NEIGHBOUR: 'it returns false'. Refute it at one input. -/
def valKeptWrong : ChangeSpec := { name := "valKept", fn := fun _ => fun
  | [d1, d2] => { results := [.lit (.bool false)], args := [d1, d2] }
  | _ => none }
def ValKeptWrongFalsely : Prop := valKeptRow.holds Tryd.pinned (OpenSpec.ofChange valKeptWrong)

/-- 'munimentlaw2.ValDeep': WHATEVER THE INPUT: true; the input reads as it did. -/
def valDeepSpec : ChangeSpec := { name := "valDeep", fn := fun _ => fun
  | [d1, d2] => { results := [.lit (.bool true)], args := [d1, d2] }
  | _ => none }
def valDeepRow : OpenClaim := { program := "ytkgjfkpabdlgbaadoor", sum := "309a77e15bfbbf6f480cffd3c13016fecaee20fa85c9a79f75b8bd3092b45469", func := "muniment/munimentlaw2.ValDeep", spec := "valDeep", unfollowed := true, recurses := true, named := ["unicode/utf8.first", "unicode/utf8.acceptRanges"], apart := false, laid := [("unicode/utf8.acceptRanges", laid_unicode_utf8_acceptRanges), ("unicode/utf8.first", laid_unicode_utf8_first)] }
def ValDeepSaid : Prop := valDeepRow.holds Tryd.pinned (OpenSpec.ofChange valDeepSpec)

/-- ITS FALSE NEIGHBOUR: 'it returns false'. Refute it at one input. -/
def valDeepWrong : ChangeSpec := { name := "valDeep", fn := fun _ => fun
  | [d1, d2] => { results := [.lit (.bool false)], args := [d1, d2] }
  | _ => none }
def ValDeepWrongFalsely : Prop := valDeepRow.holds Tryd.pinned (OpenSpec.ofChange valDeepWrong)

/-- 'munimentlaw2.ValWrites': WHATEVER THE INPUT: true; the input reads as it did. -/
def valWritesSpec : ChangeSpec := { name := "valWrites", fn := fun _ => fun
  | [d] => { results := [.lit (.bool true)], args := [d] }
  | _ => none }
def valWritesRow : OpenClaim := { program := "ytkgjfkpabdlgbaadoor", sum := "309a77e15bfbbf6f480cffd3c13016fecaee20fa85c9a79f75b8bd3092b45469", func := "muniment/munimentlaw2.ValWrites", spec := "valWrites", unfollowed := true, recurses := true, named := ["unicode/utf8.first", "unicode/utf8.acceptRanges"], loops := true, apart := false, laid := [("unicode/utf8.acceptRanges", laid_unicode_utf8_acceptRanges), ("unicode/utf8.first", laid_unicode_utf8_first)] }
def ValWritesSaid : Prop := valWritesRow.holds Tryd.pinned (OpenSpec.ofChange valWritesSpec)

/-- ITS FALSE NEIGHBOUR: 'it returns false'. Refute it at one input. -/
def valWritesWrong : ChangeSpec := { name := "valWrites", fn := fun _ => fun
  | [d] => { results := [.lit (.bool false)], args := [d] }
  | _ => none }
def ValWritesWrongFalsely : Prop := valWritesRow.holds Tryd.pinned (OpenSpec.ofChange valWritesWrong)

/-- 'munimentlaw2.ValOrders': WHATEVER THE INPUT: true; the input reads as it did. -/
def valOrdersSpec : ChangeSpec := { name := "valOrders", fn := fun _ => fun
  | [d1, d2] => { results := [.lit (.bool true)], args := [d1, d2] }
  | _ => none }
def valOrdersRow : OpenClaim := { program := "ytkgjfkpabdlgbaadoor", sum := "309a77e15bfbbf6f480cffd3c13016fecaee20fa85c9a79f75b8bd3092b45469", func := "muniment/munimentlaw2.ValOrders", spec := "valOrders", inPlace := ["math.Float64frombits", "math.archFloor", "math.Float64bits", "math.archTrunc", "internal/bytealg.Compare", "internal/bytealg.abigen_runtime_cmpstring"], unfollowed := true, recurses := true, named := ["unicode/utf8.first", "unicode/utf8.acceptRanges"], loops := true, apart := false, laid := [("unicode/utf8.acceptRanges", laid_unicode_utf8_acceptRanges), ("unicode/utf8.first", laid_unicode_utf8_first)] }
def ValOrdersSaid : Prop := valOrdersRow.holds Tryd.pinned (OpenSpec.ofChange valOrdersSpec)

/-- ITS FALSE NEIGHBOUR: 'it returns false'. Refute it at one input. -/
def valOrdersWrong : ChangeSpec := { name := "valOrders", fn := fun _ => fun
  | [d1, d2] => { results := [.lit (.bool false)], args := [d1, d2] }
  | _ => none }
def ValOrdersWrongFalsely : Prop := valOrdersRow.holds Tryd.pinned (OpenSpec.ofChange valOrdersWrong)

/-- 'munimentlaw2.ValChain': WHATEVER THE INPUT: true; the input reads as it did. -/
def valChainSpec : ChangeSpec := { name := "valChain", fn := fun _ => fun
  | [d1, d2, d3] => { results := [.lit (.bool true)], args := [d1, d2, d3] }
  | _ => none }
def valChainRow : OpenClaim := { program := "ytkgjfkpabdlgbaadoor", sum := "309a77e15bfbbf6f480cffd3c13016fecaee20fa85c9a79f75b8bd3092b45469", func := "muniment/munimentlaw2.ValChain", spec := "valChain", inPlace := ["math.Float64frombits", "math.archFloor", "math.Float64bits", "math.archTrunc", "internal/bytealg.Compare", "internal/bytealg.abigen_runtime_cmpstring"], unfollowed := true, recurses := true, named := ["unicode/utf8.first", "unicode/utf8.acceptRanges"], loops := true, apart := false, laid := [("unicode/utf8.acceptRanges", laid_unicode_utf8_acceptRanges), ("unicode/utf8.first", laid_unicode_utf8_first)] }
def ValChainSaid : Prop := valChainRow.holds Tryd.pinned (OpenSpec.ofChange valChainSpec)

/-- ITS FALSE NEIGHBOUR: 'it returns false'. Refute it at one input. -/
def valChainWrong : ChangeSpec := { name := "valChain", fn := fun _ => fun
  | [d1, d2, d3] => { results := [.lit (.bool false)], args := [d1, d2, d3] }
  | _ => none }
def ValChainWrongFalsely : Prop := valChainRow.holds Tryd.pinned (OpenSpec.ofChange valChainWrong)

/-- 'munimentlaw2.ValSizes': WHATEVER THE INPUT: true; the input reads as it did. -/
def valSizesSpec : ChangeSpec := { name := "valSizes", fn := fun _ => fun
  | [d1, d2] => { results := [.lit (.bool true)], args := [d1, d2] }
  | _ => none }
def valSizesRow : OpenClaim := { program := "ytkgjfkpabdlgbaadoor", sum := "309a77e15bfbbf6f480cffd3c13016fecaee20fa85c9a79f75b8bd3092b45469", func := "muniment/munimentlaw2.ValSizes", spec := "valSizes", inPlace := ["internal/bytealg.CountString", "internal/bytealg.IndexByteString", "internal/bytealg.IndexString"], unfollowed := true, recurses := true, named := ["unicode/utf8.first", "unicode/utf8.acceptRanges", "internal/bytealg.MaxLen"], loops := true, apart := false, laid := [("unicode/utf8.acceptRanges", laid_unicode_utf8_acceptRanges), ("unicode/utf8.first", laid_unicode_utf8_first)] }
def ValSizesSaid : Prop := valSizesRow.holds Tryd.pinned (OpenSpec.ofChange valSizesSpec)

/-- ITS FALSE NEIGHBOUR: 'it returns false'. Refute it at one input. -/
def valSizesWrong : ChangeSpec := { name := "valSizes", fn := fun _ => fun
  | [d1, d2] => { results := [.lit (.bool false)], args := [d1, d2] }
  | _ => none }
def ValSizesWrongFalsely : Prop := valSizesRow.holds Tryd.pinned (OpenSpec.ofChange valSizesWrong)

/-- 'munimentlaw2.ValPaths': WHATEVER THE INPUT: true; the input reads as it did. -/
def valPathsSpec : ChangeSpec := { name := "valPaths", fn := fun _ => fun
  | [d1, d2, d3, d4] => { results := [.lit (.bool true)], args := [d1, d2, d3, d4] }
  | _ => none }
def valPathsRow : OpenClaim := { program := "ytkgjfkpabdlgbaadoor", sum := "309a77e15bfbbf6f480cffd3c13016fecaee20fa85c9a79f75b8bd3092b45469", func := "muniment/munimentlaw2.ValPaths", spec := "valPaths", inPlace := ["internal/bytealg.CountString", "internal/bytealg.IndexByteString", "internal/bytealg.IndexString"], unfollowed := true, recurses := true, named := ["unicode/utf8.first", "unicode/utf8.acceptRanges", "internal/bytealg.MaxLen"], loops := true, apart := false, laid := [("unicode/utf8.acceptRanges", laid_unicode_utf8_acceptRanges), ("unicode/utf8.first", laid_unicode_utf8_first)] }
def ValPathsSaid : Prop := valPathsRow.holds Tryd.pinned (OpenSpec.ofChange valPathsSpec)

/-- ITS FALSE NEIGHBOUR: 'it returns false'. Refute it at one input. -/
def valPathsWrong : ChangeSpec := { name := "valPaths", fn := fun _ => fun
  | [d1, d2, d3, d4] => { results := [.lit (.bool false)], args := [d1, d2, d3, d4] }
  | _ => none }
def ValPathsWrongFalsely : Prop := valPathsRow.holds Tryd.pinned (OpenSpec.ofChange valPathsWrong)

/-- 'munimentlaw2.ValFields': WHATEVER THE INPUT: true; the input reads as it did. -/
def valFieldsSpec : ChangeSpec := { name := "valFields", fn := fun _ => fun
  | [d1, d2, d3, d4] => { results := [.lit (.bool true)], args := [d1, d2, d3, d4] }
  | _ => none }
def valFieldsRow : OpenClaim := { program := "ytkgjfkpabdlgbaadoor", sum := "309a77e15bfbbf6f480cffd3c13016fecaee20fa85c9a79f75b8bd3092b45469", func := "muniment/munimentlaw2.ValFields", spec := "valFields", inPlace := ["internal/bytealg.CountString", "internal/bytealg.IndexByteString", "internal/bytealg.IndexString"], unfollowed := true, recurses := true, named := ["unicode/utf8.first", "unicode/utf8.acceptRanges", "internal/bytealg.MaxLen"], loops := true, apart := false, laid := [("unicode/utf8.acceptRanges", laid_unicode_utf8_acceptRanges), ("unicode/utf8.first", laid_unicode_utf8_first)] }
def ValFieldsSaid : Prop := valFieldsRow.holds Tryd.pinned (OpenSpec.ofChange valFieldsSpec)

/-- ITS FALSE NEIGHBOUR: 'it returns false'. Refute it at one input. -/
def valFieldsWrong : ChangeSpec := { name := "valFields", fn := fun _ => fun
  | [d1, d2, d3, d4] => { results := [.lit (.bool false)], args := [d1, d2, d3, d4] }
  | _ => none }
def ValFieldsWrongFalsely : Prop := valFieldsRow.holds Tryd.pinned (OpenSpec.ofChange valFieldsWrong)

/-- 'munimentlaw2.ValKnown': WHATEVER THE INPUT: true; the input reads as it did. -/
def valKnownSpec : ChangeSpec := { name := "valKnown", fn := fun _ => fun
  | [] => { results := [.lit (.bool true)], args := [] }
  | _ => none }
def valKnownRow : OpenClaim := { program := "ytkgjfkpabdlgbaadoor", sum := "309a77e15bfbbf6f480cffd3c13016fecaee20fa85c9a79f75b8bd3092b45469", func := "muniment/munimentlaw2.ValKnown", spec := "valKnown", inPlace := ["math.Float64frombits", "math.archFloor", "math.Float64bits", "math.archTrunc", "internal/bytealg.Compare", "internal/bytealg.abigen_runtime_cmpstring", "internal/bytealg.CountString", "internal/bytealg.IndexByteString", "internal/bytealg.IndexString"], unfollowed := true, recurses := true, named := ["unicode/utf8.first", "unicode/utf8.acceptRanges", "internal/bytealg.MaxLen"], apart := false, laid := [("unicode/utf8.acceptRanges", laid_unicode_utf8_acceptRanges), ("unicode/utf8.first", laid_unicode_utf8_first)] }
def ValKnownSaid : Prop := valKnownRow.holds Tryd.pinned (OpenSpec.ofChange valKnownSpec)

/-- ITS FALSE NEIGHBOUR: 'it returns false'. Refute it at one input. -/
def valKnownWrong : ChangeSpec := { name := "valKnown", fn := fun _ => fun
  | [] => { results := [.lit (.bool false)], args := [] }
  | _ => none }
def ValKnownWrongFalsely : Prop := valKnownRow.holds Tryd.pinned (OpenSpec.ofChange valKnownWrong)

/- THE SECOND FORM. 'bulk': how many values and letters a reading holds, each counted each time it is reached (what is shared counts as often as it is met; a slice's spare places count too). A statement '..UptoSaid' is the law's where the arguments, and the package variables that the reading takes, are together of bulk at most 1048576: NARROWER than '..Said'. Prove '..Said' where nothing that the law and all that it calls make is longer than what came in: it says more and counts as full. Else prove '..UptoSaid'. A law counts once. -/
mutual
def uptoBulk {H : Type} : DataW H → Nat
  | .lit (.string bytes) => bytes.length + 1
  | .lit _ => 1
  | .nil => 1
  | .ptr d => uptoBulk d + 1
  | .slice elems spare => uptoBulkAll elems + uptoBulkAll spare + 1
  | .agg parts => uptoBulkAll parts + 1
  | .iface _ d => uptoBulk d + 1
  | .map entries => uptoBulkEntries entries + 1
  | .held _ => 1
def uptoBulkAll {H : Type} : List (DataW H) → Nat
  | [] => 0
  | d :: r => uptoBulk d + uptoBulkAll r
def uptoBulkEntries {H : Type} : List (Lit × DataW H) → Nat
  | [] => 0
  | x :: r => uptoBulkEntry x + uptoBulkEntries r
def uptoBulkEntry {H : Type} : Lit × DataW H → Nat
  | (.string bytes, d) => bytes.length + uptoBulk d + 1
  | (_, d) => uptoBulk d + 1
 end
def uptoSmall : (H : Type) → List (DataW H) → Bool := fun _ ds => decide (uptoBulkAll ds ≤ 1048576)
def OpenSpec.upto (s : _root_.Go.ChangeSpec) : _root_.Go.OpenSpec := { _root_.Go.OpenSpec.ofChange s with cond := some uptoSmall }

/-- 'munimentlaw2.ValReads', WHERE WHAT IT READS IS OF BULK AT MOST 1048576: true; the input reads as it did. -/
def valReadsUptoRow : OpenClaim := { program := "ytkgjfkpabdlgbaadoor", sum := "309a77e15bfbbf6f480cffd3c13016fecaee20fa85c9a79f75b8bd3092b45469", func := "muniment/munimentlaw2.ValReads", spec := "valReads", unfollowed := true, recurses := true, named := ["unicode/utf8.first", "unicode/utf8.acceptRanges"], apart := false, laid := [("unicode/utf8.acceptRanges", laid_unicode_utf8_acceptRanges), ("unicode/utf8.first", laid_unicode_utf8_first)], narrowed := true }
def ValReadsUptoSaid : Prop := valReadsUptoRow.holds Tryd.pinned (OpenSpec.upto valReadsSpec)

/-- 'munimentlaw2.ValBack', WHERE WHAT IT READS IS OF BULK AT MOST 1048576: true; the input reads as it did. -/
def valBackUptoRow : OpenClaim := { program := "ytkgjfkpabdlgbaadoor", sum := "309a77e15bfbbf6f480cffd3c13016fecaee20fa85c9a79f75b8bd3092b45469", func := "muniment/munimentlaw2.ValBack", spec := "valBack", unfollowed := true, recurses := true, named := ["unicode/utf8.first", "unicode/utf8.acceptRanges"], loops := true, apart := false, laid := [("unicode/utf8.acceptRanges", laid_unicode_utf8_acceptRanges), ("unicode/utf8.first", laid_unicode_utf8_first)], narrowed := true }
def ValBackUptoSaid : Prop := valBackUptoRow.holds Tryd.pinned (OpenSpec.upto valBackSpec)

/-- 'munimentlaw2.ValKept', WHERE WHAT IT READS IS OF BULK AT MOST 1048576: true; the input reads as it did. -/
def valKeptUptoRow : OpenClaim := { program := "ytkgjfkpabdlgbaadoor", sum := "309a77e15bfbbf6f480cffd3c13016fecaee20fa85c9a79f75b8bd3092b45469", func := "muniment/munimentlaw2.ValKept", spec := "valKept", unfollowed := true, recurses := true, named := ["unicode/utf8.first", "unicode/utf8.acceptRanges"], loops := true, apart := false, laid := [("unicode/utf8.acceptRanges", laid_unicode_utf8_acceptRanges), ("unicode/utf8.first", laid_unicode_utf8_first)], narrowed := true }
def ValKeptUptoSaid : Prop := valKeptUptoRow.holds Tryd.pinned (OpenSpec.upto valKeptSpec)

/-- 'munimentlaw2.ValDeep', WHERE WHAT IT READS IS OF BULK AT MOST 1048576: true; the input reads as it did. -/
def valDeepUptoRow : OpenClaim := { program := "ytkgjfkpabdlgbaadoor", sum := "309a77e15bfbbf6f480cffd3c13016fecaee20fa85c9a79f75b8bd3092b45469", func := "muniment/munimentlaw2.ValDeep", spec := "valDeep", unfollowed := true, recurses := true, named := ["unicode/utf8.first", "unicode/utf8.acceptRanges"], apart := false, laid := [("unicode/utf8.acceptRanges", laid_unicode_utf8_acceptRanges), ("unicode/utf8.first", laid_unicode_utf8_first)], narrowed := true }
def ValDeepUptoSaid : Prop := valDeepUptoRow.holds Tryd.pinned (OpenSpec.upto valDeepSpec)

/-- 'munimentlaw2.ValWrites', WHERE WHAT IT READS IS OF BULK AT MOST 1048576: true; the input reads as it did. -/
def valWritesUptoRow : OpenClaim := { program := "ytkgjfkpabdlgbaadoor", sum := "309a77e15bfbbf6f480cffd3c13016fecaee20fa85c9a79f75b8bd3092b45469", func := "muniment/munimentlaw2.ValWrites", spec := "valWrites", unfollowed := true, recurses := true, named := ["unicode/utf8.first", "unicode/utf8.acceptRanges"], loops := true, apart := false, laid := [("unicode/utf8.acceptRanges", laid_unicode_utf8_acceptRanges), ("unicode/utf8.first", laid_unicode_utf8_first)], narrowed := true }
def ValWritesUptoSaid : Prop := valWritesUptoRow.holds Tryd.pinned (OpenSpec.upto valWritesSpec)

/-- 'munimentlaw2.ValOrders', WHERE WHAT IT READS IS OF BULK AT MOST 1048576: true; the input reads as it did. -/
def valOrdersUptoRow : OpenClaim := { program := "ytkgjfkpabdlgbaadoor", sum := "309a77e15bfbbf6f480cffd3c13016fecaee20fa85c9a79f75b8bd3092b45469", func := "muniment/munimentlaw2.ValOrders", spec := "valOrders", inPlace := ["math.Float64frombits", "math.archFloor", "math.Float64bits", "math.archTrunc", "internal/bytealg.Compare", "internal/bytealg.abigen_runtime_cmpstring"], unfollowed := true, recurses := true, named := ["unicode/utf8.first", "unicode/utf8.acceptRanges"], loops := true, apart := false, laid := [("unicode/utf8.acceptRanges", laid_unicode_utf8_acceptRanges), ("unicode/utf8.first", laid_unicode_utf8_first)], narrowed := true }
def ValOrdersUptoSaid : Prop := valOrdersUptoRow.holds Tryd.pinned (OpenSpec.upto valOrdersSpec)

/-- 'munimentlaw2.ValChain', WHERE WHAT IT READS IS OF BULK AT MOST 1048576: true; the input reads as it did. -/
def valChainUptoRow : OpenClaim := { program := "ytkgjfkpabdlgbaadoor", sum := "309a77e15bfbbf6f480cffd3c13016fecaee20fa85c9a79f75b8bd3092b45469", func := "muniment/munimentlaw2.ValChain", spec := "valChain", inPlace := ["math.Float64frombits", "math.archFloor", "math.Float64bits", "math.archTrunc", "internal/bytealg.Compare", "internal/bytealg.abigen_runtime_cmpstring"], unfollowed := true, recurses := true, named := ["unicode/utf8.first", "unicode/utf8.acceptRanges"], loops := true, apart := false, laid := [("unicode/utf8.acceptRanges", laid_unicode_utf8_acceptRanges), ("unicode/utf8.first", laid_unicode_utf8_first)], narrowed := true }
def ValChainUptoSaid : Prop := valChainUptoRow.holds Tryd.pinned (OpenSpec.upto valChainSpec)

/-- 'munimentlaw2.ValSizes', WHERE WHAT IT READS IS OF BULK AT MOST 1048576: true; the input reads as it did. -/
def valSizesUptoRow : OpenClaim := { program := "ytkgjfkpabdlgbaadoor", sum := "309a77e15bfbbf6f480cffd3c13016fecaee20fa85c9a79f75b8bd3092b45469", func := "muniment/munimentlaw2.ValSizes", spec := "valSizes", inPlace := ["internal/bytealg.CountString", "internal/bytealg.IndexByteString", "internal/bytealg.IndexString"], unfollowed := true, recurses := true, named := ["unicode/utf8.first", "unicode/utf8.acceptRanges", "internal/bytealg.MaxLen"], loops := true, apart := false, laid := [("unicode/utf8.acceptRanges", laid_unicode_utf8_acceptRanges), ("unicode/utf8.first", laid_unicode_utf8_first)], narrowed := true }
def ValSizesUptoSaid : Prop := valSizesUptoRow.holds Tryd.pinned (OpenSpec.upto valSizesSpec)

/-- 'munimentlaw2.ValPaths', WHERE WHAT IT READS IS OF BULK AT MOST 1048576: true; the input reads as it did. -/
def valPathsUptoRow : OpenClaim := { program := "ytkgjfkpabdlgbaadoor", sum := "309a77e15bfbbf6f480cffd3c13016fecaee20fa85c9a79f75b8bd3092b45469", func := "muniment/munimentlaw2.ValPaths", spec := "valPaths", inPlace := ["internal/bytealg.CountString", "internal/bytealg.IndexByteString", "internal/bytealg.IndexString"], unfollowed := true, recurses := true, named := ["unicode/utf8.first", "unicode/utf8.acceptRanges", "internal/bytealg.MaxLen"], loops := true, apart := false, laid := [("unicode/utf8.acceptRanges", laid_unicode_utf8_acceptRanges), ("unicode/utf8.first", laid_unicode_utf8_first)], narrowed := true }
def ValPathsUptoSaid : Prop := valPathsUptoRow.holds Tryd.pinned (OpenSpec.upto valPathsSpec)

/-- 'munimentlaw2.ValFields', WHERE WHAT IT READS IS OF BULK AT MOST 1048576: true; the input reads as it did. -/
def valFieldsUptoRow : OpenClaim := { program := "ytkgjfkpabdlgbaadoor", sum := "309a77e15bfbbf6f480cffd3c13016fecaee20fa85c9a79f75b8bd3092b45469", func := "muniment/munimentlaw2.ValFields", spec := "valFields", inPlace := ["internal/bytealg.CountString", "internal/bytealg.IndexByteString", "internal/bytealg.IndexString"], unfollowed := true, recurses := true, named := ["unicode/utf8.first", "unicode/utf8.acceptRanges", "internal/bytealg.MaxLen"], loops := true, apart := false, laid := [("unicode/utf8.acceptRanges", laid_unicode_utf8_acceptRanges), ("unicode/utf8.first", laid_unicode_utf8_first)], narrowed := true }
def ValFieldsUptoSaid : Prop := valFieldsUptoRow.holds Tryd.pinned (OpenSpec.upto valFieldsSpec)

/-- 'munimentlaw2.ValKnown', WHERE WHAT IT READS IS OF BULK AT MOST 1048576: true; the input reads as it did. -/
def valKnownUptoRow : OpenClaim := { program := "ytkgjfkpabdlgbaadoor", sum := "309a77e15bfbbf6f480cffd3c13016fecaee20fa85c9a79f75b8bd3092b45469", func := "muniment/munimentlaw2.ValKnown", spec := "valKnown", inPlace := ["math.Float64frombits", "math.archFloor", "math.Float64bits", "math.archTrunc", "internal/bytealg.Compare", "internal/bytealg.abigen_runtime_cmpstring", "internal/bytealg.CountString", "internal/bytealg.IndexByteString", "internal/bytealg.IndexString"], unfollowed := true, recurses := true, named := ["unicode/utf8.first", "unicode/utf8.acceptRanges", "internal/bytealg.MaxLen"], apart := false, laid := [("unicode/utf8.acceptRanges", laid_unicode_utf8_acceptRanges), ("unicode/utf8.first", laid_unicode_utf8_first)], narrowed := true }
def ValKnownUptoSaid : Prop := valKnownUptoRow.holds Tryd.pinned (OpenSpec.upto valKnownSpec)

end Rows
end Go.Proofs.YtkgjfkpabdlgbaaDoor
