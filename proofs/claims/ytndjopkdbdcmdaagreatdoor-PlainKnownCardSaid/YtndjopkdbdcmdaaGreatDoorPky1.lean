/- Part 1 of the proof of pknown_card. -/
import Derived.Test.YtndjopkdbdcmdaaGreatDoorTk
import Derived.Test.YtndjopkdbdcmdaaGreatDoorProg
import Derived.Ground.NamesProg
import Derived.WalkKit
import Derived.WalkMore
import Derived.Below
import Derived.Shelf.Unicode.ValidAny
import Derived.Shelf.Strings.FuncGrows
import Derived.Shelf.Strings.SplitShaped
import Derived.Ground.SlsfProg
import Derived.Shelf.SlSortCmp.KitK
set_option linter.unusedVariables false
set_option linter.unusedSimpArgs false
set_option maxRecDepth 100000
set_option maxHeartbeats 12800000
namespace Go.Proofs.YtndjopkdbdcmdaaGreatDoor
end Go.Proofs.YtndjopkdbdcmdaaGreatDoor
namespace Go.Proofs
open Go.Shelf
def Tryz.laysValid_ren : Go.Shelf.Ren := ⟨fun | 196 => 130 | 259 => 174 | n => n, fun | 9 => 9 | 4 => 4 | 3 => 3 | 5 => 5 | 12 => 12 | 119 => 176 | 0 => 0 | 46 => 180 | 139 => 179 | 138 => 178 | 53 => 22 | n => n, fun | 3 => 0 | 4 => 1 | n => n⟩
theorem Tryz.laysValid : Go.Proofs.Lays.n196 Tryz.prog Tryz.laysValid_ren := {
 mixed := by kernel_rfl
 f196 := Tryz.func130.trans (congrArg some (by kernel_rfl))
 f259 := Tryz.func174.trans (congrArg some (by kernel_rfl))
 t0 := Tryz.underlying0
 a0 := Tryz.isAgg0
 z0 := Tryz.sizeOf0
 v0 := Tryz.zeroValue0
 t3 := Tryz.underlying3
 a3 := Tryz.isAgg3
 z3 := Tryz.sizeOf3
 v3 := Tryz.zeroValue3
 t4 := Tryz.underlying4
 a4 := Tryz.isAgg4
 z4 := Tryz.sizeOf4
 v4 := Tryz.zeroValue4
 t5 := Tryz.underlying5
 a5 := Tryz.isAgg5
 z5 := Tryz.sizeOf5
 v5 := Tryz.zeroValue5
 t9 := Tryz.underlying9
 a9 := Tryz.isAgg9
 z9 := Tryz.sizeOf9
 v9 := Tryz.zeroValue9
 t12 := Tryz.underlying12
 a12 := Tryz.isAgg12
 z12 := Tryz.sizeOf12
 v12 := Tryz.zeroValue12
 t46 := Tryz.underlying180
 a46 := Tryz.isAgg180
 z46 := Tryz.sizeOf180
 v46 := Tryz.zeroValue180
 t53 := Tryz.underlying22
 a53 := Tryz.isAgg22
 z53 := Tryz.sizeOf22
 v53 := Tryz.zeroValue22
 t119 := Tryz.underlying176
 a119 := Tryz.isAgg176
 z119 := Tryz.sizeOf176
 t138 := Tryz.underlying178
 a138 := Tryz.isAgg178
 z138 := Tryz.sizeOf178
 v138 := Tryz.zeroValue178
 t139 := Tryz.underlying179
 a139 := Tryz.isAgg179
 z139 := Tryz.sizeOf179
 v139 := Tryz.zeroValue179
 g3 := by kernel_rfl
 g4 := by kernel_rfl }
def Tryz.laysCF_ren : Go.Shelf.Ren := ⟨fun | 17 => 131 | 15 => 175 | 20 => 198 | n => n, fun | 9 => 9 | 23 => 182 | 4 => 4 | 3 => 3 | 0 => 0 | 21 => 21 | n => n, fun | n => n⟩
theorem Tryz.laysCF : Go.Proofs.LaysGw.n17 Tryz.prog Tryz.laysCF_ren := {
 mixed := by kernel_rfl
 f15 := Tryz.func175.trans (congrArg some (by kernel_rfl))
 f17 := Tryz.func131.trans (congrArg some (by kernel_rfl))
 f20 := Tryz.func198.trans (congrArg some (by kernel_rfl))
 t0 := Tryz.underlying0
 a0 := Tryz.isAgg0
 z0 := Tryz.sizeOf0
 v0 := Tryz.zeroValue0
 i0 := by kernel_rfl
 t3 := Tryz.underlying3
 a3 := Tryz.isAgg3
 z3 := Tryz.sizeOf3
 v3 := Tryz.zeroValue3
 i3 := by kernel_rfl
 t4 := Tryz.underlying4
 a4 := Tryz.isAgg4
 z4 := Tryz.sizeOf4
 v4 := Tryz.zeroValue4
 i4 := by kernel_rfl
 t9 := Tryz.underlying9
 a9 := Tryz.isAgg9
 z9 := Tryz.sizeOf9
 v9 := Tryz.zeroValue9
 i9 := by kernel_rfl
 t21 := Tryz.underlying21
 a21 := Tryz.isAgg21
 z21 := Tryz.sizeOf21
 v21 := Tryz.zeroValue21
 i21 := by kernel_rfl
 t23 := Tryz.underlying182
 a23 := Tryz.isAgg182
 z23 := Tryz.sizeOf182
 v23 := Tryz.zeroValue182
 i23 := by kernel_rfl }
end Go.Proofs
namespace Go.Proofs.YtndjopkdbdcmdaaGreatDoor
end Go.Proofs.YtndjopkdbdcmdaaGreatDoor
namespace Go.Proofs
open Go.Shelf
def Tryz.laysSplit_ren : Go.Shelf.Ren := ⟨fun | 146 => 47 | 221 => 90 | 268 => 133 | 138 => 134 | 143 => 135 | 195 => 176 | 197 => 177 | 218 => 178 | 219 => 179 | 260 => 199 | 217 => 200 | 225 => 201 | 224 => 202 | 267 => 203 | 266 => 212 | 314 => 213 | n => n, fun | 9 => 9 | 31 => 103 | 3 => 3 | 4 => 4 | 0 => 0 | 105 => 212 | 21 => 21 | 5 => 5 | 46 => 180 | 119 => 176 | 139 => 179 | 138 => 178 | 146 => 232 | 51 => 231 | n => n, fun | 1 => 2 | 3 => 0 | 4 => 1 | n => n⟩
theorem Tryz.laysSplit : Go.Proofs.LaysM.n146 Tryz.prog Tryz.laysSplit_ren := {
 mixed := by kernel_rfl
 f138 := Tryz.func134.trans (congrArg some (by kernel_rfl))
 f143 := Tryz.func135.trans (congrArg some (by kernel_rfl))
 f146 := Tryz.func47.trans (congrArg some (by kernel_rfl))
 f195 := Tryz.func176.trans (congrArg some (by kernel_rfl))
 f197 := Tryz.func177.trans (congrArg some (by kernel_rfl))
 f217 := Tryz.func200.trans (congrArg some (by kernel_rfl))
 f218 := Tryz.func178.trans (congrArg some (by kernel_rfl))
 f219 := Tryz.func179.trans (congrArg some (by kernel_rfl))
 f221 := Tryz.func90.trans (congrArg some (by kernel_rfl))
 f224 := Tryz.func202.trans (congrArg some (by kernel_rfl))
 f225 := Tryz.func201.trans (congrArg some (by kernel_rfl))
 f260 := Tryz.func199.trans (congrArg some (by kernel_rfl))
 f266 := Tryz.func212.trans (congrArg some (by kernel_rfl))
 f267 := Tryz.func203.trans (congrArg some (by kernel_rfl))
 f268 := Tryz.func133.trans (congrArg some (by kernel_rfl))
 f314 := Tryz.func213.trans (congrArg some (by kernel_rfl))
 t0 := Tryz.underlying0
 a0 := Tryz.isAgg0
 z0 := Tryz.sizeOf0
 v0 := Tryz.zeroValue0
 t3 := Tryz.underlying3
 a3 := Tryz.isAgg3
 z3 := Tryz.sizeOf3
 v3 := Tryz.zeroValue3
 t4 := Tryz.underlying4
 a4 := Tryz.isAgg4
 z4 := Tryz.sizeOf4
 v4 := Tryz.zeroValue4
 t5 := Tryz.underlying5
 a5 := Tryz.isAgg5
 z5 := Tryz.sizeOf5
 v5 := Tryz.zeroValue5
 t9 := Tryz.underlying9
 a9 := Tryz.isAgg9
 z9 := Tryz.sizeOf9
 v9 := Tryz.zeroValue9
 t21 := Tryz.underlying21
 a21 := Tryz.isAgg21
 z21 := Tryz.sizeOf21
 v21 := Tryz.zeroValue21
 t31 := Tryz.underlying103
 a31 := Tryz.isAgg103
 z31 := Tryz.sizeOf103
 v31 := Tryz.zeroValue103
 t46 := Tryz.underlying180
 a46 := Tryz.isAgg180
 z46 := Tryz.sizeOf180
 v46 := Tryz.zeroValue180
 t51 := Tryz.underlying231
 a51 := Tryz.isAgg231
 z51 := Tryz.sizeOf231
 v51 := Tryz.zeroValue231
 t105 := Tryz.underlying212
 a105 := Tryz.isAgg212
 z105 := Tryz.sizeOf212
 v105 := Tryz.zeroValue212
 t119 := Tryz.underlying176
 a119 := Tryz.isAgg176
 z119 := Tryz.sizeOf176
 t138 := Tryz.underlying178
 a138 := Tryz.isAgg178
 z138 := Tryz.sizeOf178
 v138 := Tryz.zeroValue178
 t139 := Tryz.underlying179
 a139 := Tryz.isAgg179
 z139 := Tryz.sizeOf179
 v139 := Tryz.zeroValue179
 t146 := Tryz.underlying232
 a146 := Tryz.isAgg232
 z146 := Tryz.sizeOf232
 v146 := Tryz.zeroValue232
 g1 := by kernel_rfl
 g3 := by kernel_rfl
 g4 := by kernel_rfl
 i0 := by kernel_rfl
 i3 := by kernel_rfl
 i4 := by kernel_rfl
 i5 := by kernel_rfl
 i9 := by kernel_rfl
 i21 := by kernel_rfl
 i31 := by kernel_rfl
 i46 := by kernel_rfl
 i51 := by kernel_rfl
 i105 := by kernel_rfl
 i138 := by kernel_rfl
 i139 := by kernel_rfl
 i146 := by kernel_rfl
 m1 := by kernel_rfl
 s1_3 := fun w h => Go.Proofs.cell_of_shapedOpen_int (zero := #[.int .i64 0]) (t := 3) h (of_decide_eq_true (by kernel_rfl)) (by kernel_rfl) rfl (by kernel_rfl) (by kernel_rfl) Tryz.underlying3
 m3 := by kernel_rfl
 m4 := by kernel_rfl }
end Go.Proofs
namespace Go.Proofs.YtndjopkdbdcmdaaGreatDoor
end Go.Proofs.YtndjopkdbdcmdaaGreatDoor
namespace Go.Proofs
open Go.Shelf
def Tryz.laysIns_ren : Go.Shelf.Ren := ⟨fun | 20 => 190 | n => n, fun | 24 => 115 | 22 => 111 | 3 => 3 | 25 => 154 | 4 => 4 | 0 => 0 | n => n, fun | n => n⟩
theorem Tryz.laysIns : Go.Proofs.SlLaysF0.n20 Tryz.prog Tryz.laysIns_ren := {
 mixed := by kernel_rfl
 f20 := ⟨Tryz.f190.name, by decide, Tryz.func190.trans (congrArg some (by kernel_rfl))⟩
 t0 := Tryz.underlying0
 a0 := Tryz.isAgg0
 z0 := Tryz.sizeOf0
 v0 := Tryz.zeroValue0
 t3 := Tryz.underlying3
 a3 := Tryz.isAgg3
 z3 := Tryz.sizeOf3
 v3 := Tryz.zeroValue3
 t4 := Tryz.underlying4
 a4 := Tryz.isAgg4
 z4 := Tryz.sizeOf4
 v4 := Tryz.zeroValue4
 t22 := Tryz.underlying111
 a22 := Tryz.isAgg111
 z22 := Tryz.sizeOf111
 v22 := Tryz.zeroValue111
 t25 := Tryz.underlying154
 a25 := Tryz.isAgg154
 z25 := Tryz.sizeOf154
 v25 := Tryz.zeroValue154 }
end Go.Proofs
namespace Go.Proofs.YtndjopkdbdcmdaaGreatDoor
end Go.Proofs.YtndjopkdbdcmdaaGreatDoor
