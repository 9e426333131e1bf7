/-
  DERIVED: THE SHELF's CONTRACTS AT THIS DUMP, IN PLAIN WORDS (tools/lay-plain.mjs out of 'YtcdbchifigonpaaDoorShelfS.lean', which tools/lay-shelf.mjs wrote): THE SAME DECLARATIONS UNDER THE SAME NAMES: 'import', 'namespace', 'open', 'def', 'theorem' AND NOTHING ELSE: no command of the shelf's: FOR A HAND-IN. Each laying: the table of numbers ('.._ren') and one theorem, a field a fact of the dump's own or the kernel's comparison; each contract: ONE APPLICATION.
-/
import Derived.Test.YtcdbchifigonpaaDoorProg
import Derived.Ground.NamesProg
import Derived.WalkKit
import Derived.WalkMore
import Derived.Below
import Derived.Shelf.Strings.SplitShaped
namespace Go.Proofs
open Go.Shelf
def Tryd.laysSplit_ren : Go.Shelf.Ren := ⟨fun | 146 => 41 | 221 => 65 | 268 => 79 | 138 => 80 | 143 => 81 | 195 => 93 | 197 => 94 | 218 => 95 | 219 => 96 | 260 => 108 | 217 => 109 | 225 => 110 | 224 => 111 | 267 => 112 | 266 => 118 | 314 => 119 | n => n, fun | 9 => 9 | 31 => 44 | 3 => 3 | 4 => 4 | 0 => 0 | 105 => 135 | 21 => 21 | 5 => 5 | 46 => 132 | 119 => 128 | 139 => 131 | 138 => 130 | 146 => 152 | 51 => 92 | n => n, fun | 1 => 2 | 3 => 0 | 4 => 1 | n => n⟩
theorem Tryd.laysSplit : Go.Proofs.LaysM.n146 Tryd.prog Tryd.laysSplit_ren := {
  mixed := by kernel_rfl
  f138 := Tryd.func80.trans (congrArg some (by kernel_rfl))
  f143 := Tryd.func81.trans (congrArg some (by kernel_rfl))
  f146 := Tryd.func41.trans (congrArg some (by kernel_rfl))
  f195 := Tryd.func93.trans (congrArg some (by kernel_rfl))
  f197 := Tryd.func94.trans (congrArg some (by kernel_rfl))
  f217 := Tryd.func109.trans (congrArg some (by kernel_rfl))
  f218 := Tryd.func95.trans (congrArg some (by kernel_rfl))
  f219 := Tryd.func96.trans (congrArg some (by kernel_rfl))
  f221 := Tryd.func65.trans (congrArg some (by kernel_rfl))
  f224 := Tryd.func111.trans (congrArg some (by kernel_rfl))
  f225 := Tryd.func110.trans (congrArg some (by kernel_rfl))
  f260 := Tryd.func108.trans (congrArg some (by kernel_rfl))
  f266 := Tryd.func118.trans (congrArg some (by kernel_rfl))
  f267 := Tryd.func112.trans (congrArg some (by kernel_rfl))
  f268 := Tryd.func79.trans (congrArg some (by kernel_rfl))
  f314 := Tryd.func119.trans (congrArg some (by kernel_rfl))
  t0 := Tryd.underlying0
  a0 := Tryd.isAgg0
  z0 := Tryd.sizeOf0
  v0 := Tryd.zeroValue0
  t3 := Tryd.underlying3
  a3 := Tryd.isAgg3
  z3 := Tryd.sizeOf3
  v3 := Tryd.zeroValue3
  t4 := Tryd.underlying4
  a4 := Tryd.isAgg4
  z4 := Tryd.sizeOf4
  v4 := Tryd.zeroValue4
  t5 := Tryd.underlying5
  a5 := Tryd.isAgg5
  z5 := Tryd.sizeOf5
  v5 := Tryd.zeroValue5
  t9 := Tryd.underlying9
  a9 := Tryd.isAgg9
  z9 := Tryd.sizeOf9
  v9 := Tryd.zeroValue9
  t21 := Tryd.underlying21
  a21 := Tryd.isAgg21
  z21 := Tryd.sizeOf21
  v21 := Tryd.zeroValue21
  t31 := Tryd.underlying44
  a31 := Tryd.isAgg44
  z31 := Tryd.sizeOf44
  v31 := Tryd.zeroValue44
  t46 := Tryd.underlying132
  a46 := Tryd.isAgg132
  z46 := Tryd.sizeOf132
  v46 := Tryd.zeroValue132
  t51 := Tryd.underlying92
  a51 := Tryd.isAgg92
  z51 := Tryd.sizeOf92
  v51 := Tryd.zeroValue92
  t105 := Tryd.underlying135
  a105 := Tryd.isAgg135
  z105 := Tryd.sizeOf135
  v105 := Tryd.zeroValue135
  t119 := Tryd.underlying128
  a119 := Tryd.isAgg128
  z119 := Tryd.sizeOf128
  t138 := Tryd.underlying130
  a138 := Tryd.isAgg130
  z138 := Tryd.sizeOf130
  v138 := Tryd.zeroValue130
  t139 := Tryd.underlying131
  a139 := Tryd.isAgg131
  z139 := Tryd.sizeOf131
  v139 := Tryd.zeroValue131
  t146 := Tryd.underlying152
  a146 := Tryd.isAgg152
  z146 := Tryd.sizeOf152
  v146 := Tryd.zeroValue152
  g1 := by kernel_rfl
  g3 := by kernel_rfl
  g4 := by kernel_rfl
  i0 := by kernel_rfl
  i3 := by kernel_rfl
  i4 := by kernel_rfl
  i5 := by kernel_rfl
  i9 := by kernel_rfl
  i21 := by kernel_rfl
  i31 := by kernel_rfl
  i46 := by kernel_rfl
  i51 := by kernel_rfl
  i105 := by kernel_rfl
  i138 := by kernel_rfl
  i139 := by kernel_rfl
  i146 := by kernel_rfl
  m1 := by kernel_rfl
  s1_3 := fun w h => Go.Proofs.cell_of_shapedOpen_int (zero := #[.int .i64 0]) (t := 3) h (of_decide_eq_true (by kernel_rfl)) (by kernel_rfl) rfl (by kernel_rfl) (by kernel_rfl) Tryd.underlying3
  m3 := by kernel_rfl
  m4 := by kernel_rfl }
end Go.Proofs
