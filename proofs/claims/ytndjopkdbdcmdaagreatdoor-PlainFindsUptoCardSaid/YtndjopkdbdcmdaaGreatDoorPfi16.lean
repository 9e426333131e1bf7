/- Part 16 of the proof of pfinds_card. -/
import Derived.Test.YtndjopkdbdcmdaaGreatDoorPfi14
import Derived.Test.YtndjopkdbdcmdaaGreatDoorPfi15
set_option linter.unusedVariables false
set_option linter.unusedSimpArgs false
set_option maxRecDepth 100000
set_option maxHeartbeats 12800000
namespace Go.Proofs.YtndjopkdbdcmdaaGreatDoor

section
open Go.RowKit
structure uU (q:Rq):Prop where
 key:q.key.count≤20000
 low:q.low.count≤20000
 high:q.high.count≤20000
 doc:q.doc.count≤20000
 fit:q.doc.fit
structure YQ (q:Rq) (w:World) (B:Nat):Prop extends uU q where
 tabs:eP w
 afS:mJ w
 all:∀W,Below B w W→eP W∧mJ W
def jQ(k:Int):Nat:=if k=1 then 79 else if k=2 then 80 else if k=3 then 81 else if k=4 then 81 else if k=5 then 82 else
 if k=6 then 83 else if k=7 then 84 else if k=8 then 85 else if k=9 then 86 else 87
theorem afT(k:Int)(h:1≤k∧k≤10):∃i,Instr.findNow (.int .i64) (.int .i64 k) reqs.toList 0=some (some (i,.agg #[.func (.func (jQ k)) #[] #[]])):=by
 have hk:k=1∨k=2∨k=3∨k=4∨k=5∨k=6∨k=7∨k=8∨k=9∨k=10:=by omega
 rcases hk with rfl | rfl | rfl | rfl | rfl | rfl | rfl | rfl | rfl | rfl<;>exact⟨_,rfl⟩
end
end Go.Proofs.YtndjopkdbdcmdaaGreatDoor
