/- slices.Sort and slices.Compact at sess's cells: the shelf's contracts laid at this program, in plain words. -/
import Derived.Test.YtglbdbghcdoicaaGreatDoorProg
import Derived.Shelf.SlGeneric
import Derived.Shelf.SlicesG.CompactI
import Derived.Shelf.SortM.Plain
import Derived.Shelf.SortM.SortNone
import Derived.Ground.SlgnProg
import Derived.Ground.SlgmProg
namespace Go.Proofs
open Go.Shelf
def Tryz.sort_ren : Go.Shelf.Ren := ⟨fun | 5 => 45 | 8 => 63 | 7 => 62 | 19 => 105 | 20 => 106 | 10 => 96 | 11 => 97 | 12 => 98 | 13 => 99 | 14 => 100 | 15 => 101 | 16 => 102 | 17 => 103 | 18 => 104 | 30 => 136 | 31 => 137 | 32 => 138 | 33 => 139 | 34 => 140 | 35 => 141 | 40 => 148 | n => n, fun | 23 => 97 | 25 => 3 | 3 => 3 | 32 => 130 | 22 => 23 | 0 => 0 | 44 => 203 | 46 => 205 | 4 => 4 | 36 => 195 | 35 => 194 | 41 => 200 | 5 => 5 | 9 => 9 | 53 => 246 | 57 => 250 | 63 => 256 | 64 => 188 | n => n, fun | n => n⟩
theorem Tryz.sort : Go.Proofs.SlLaysM.n5 Tryz.prog Tryz.sort_ren := {
  mixed := by kernel_rfl
  f5 := ⟨Tryz.f45.name, by decide, Tryz.func45.trans (congrArg some (by kernel_rfl))⟩
  f7 := ⟨Tryz.f62.name, by decide, Tryz.func62.trans (congrArg some (by kernel_rfl))⟩
  f8 := Tryz.func63.trans (congrArg some (by kernel_rfl))
  f10 := ⟨Tryz.f96.name, by decide, Tryz.func96.trans (congrArg some (by kernel_rfl))⟩
  f11 := ⟨Tryz.f97.name, by decide, Tryz.func97.trans (congrArg some (by kernel_rfl))⟩
  f12 := ⟨Tryz.f98.name, by decide, Tryz.func98.trans (congrArg some (by kernel_rfl))⟩
  f13 := ⟨Tryz.f99.name, by decide, Tryz.func99.trans (congrArg some (by kernel_rfl))⟩
  f14 := ⟨Tryz.f100.name, by decide, Tryz.func100.trans (congrArg some (by kernel_rfl))⟩
  f15 := ⟨Tryz.f101.name, by decide, Tryz.func101.trans (congrArg some (by kernel_rfl))⟩
  f16 := ⟨Tryz.f102.name, by decide, Tryz.func102.trans (congrArg some (by kernel_rfl))⟩
  f17 := ⟨Tryz.f103.name, by decide, Tryz.func103.trans (congrArg some (by kernel_rfl))⟩
  f18 := ⟨Tryz.f104.name, by decide, Tryz.func104.trans (congrArg some (by kernel_rfl))⟩
  f19 := Tryz.func105.trans (congrArg some (by kernel_rfl))
  f20 := Tryz.func106.trans (congrArg some (by kernel_rfl))
  f30 := ⟨Tryz.f136.name, by decide, Tryz.func136.trans (congrArg some (by kernel_rfl))⟩
  f31 := Tryz.func137.trans (congrArg some (by kernel_rfl))
  f32 := Tryz.func138.trans (congrArg some (by kernel_rfl))
  f33 := ⟨Tryz.f139.name, by decide, Tryz.func139.trans (congrArg some (by kernel_rfl))⟩
  f34 := ⟨Tryz.f140.name, by decide, Tryz.func140.trans (congrArg some (by kernel_rfl))⟩
  f35 := ⟨Tryz.f141.name, by decide, Tryz.func141.trans (congrArg some (by kernel_rfl))⟩
  f40 := ⟨Tryz.f148.name, by decide, Tryz.func148.trans (congrArg some (by kernel_rfl))⟩
  t0 := Tryz.underlying0
  a0 := Tryz.isAgg0
  z0 := Tryz.sizeOf0
  v0 := Tryz.zeroValue0
  t3 := Tryz.underlying3
  a3 := Tryz.isAgg3
  z3 := Tryz.sizeOf3
  v3 := Tryz.zeroValue3
  t4 := Tryz.underlying4
  a4 := Tryz.isAgg4
  z4 := Tryz.sizeOf4
  v4 := Tryz.zeroValue4
  t5 := Tryz.underlying5
  a5 := Tryz.isAgg5
  z5 := Tryz.sizeOf5
  v5 := Tryz.zeroValue5
  t9 := Tryz.underlying9
  a9 := Tryz.isAgg9
  z9 := Tryz.sizeOf9
  v9 := Tryz.zeroValue9
  t22 := Tryz.underlying23
  a22 := Tryz.isAgg23
  z22 := Tryz.sizeOf23
  v22 := Tryz.zeroValue23
  t23 := Tryz.underlying97
  a23 := Tryz.isAgg97
  z23 := Tryz.sizeOf97
  v23 := Tryz.zeroValue97
  t25 := Tryz.underlying3
  a25 := Tryz.isAgg3
  z25 := Tryz.sizeOf3
  v25 := Tryz.zeroValue3
  t32 := Tryz.underlying130
  a32 := Tryz.isAgg130
  z32 := Tryz.sizeOf130
  v32 := Tryz.zeroValue130
  t35 := Tryz.underlying194
  a35 := Tryz.isAgg194
  z35 := Tryz.sizeOf194
  v35 := Tryz.zeroValue194
  t36 := Tryz.underlying195
  a36 := Tryz.isAgg195
  z36 := Tryz.sizeOf195
  v36 := Tryz.zeroValue195
  t41 := Tryz.underlying200
  a41 := Tryz.isAgg200
  z41 := Tryz.sizeOf200
  v41 := Tryz.zeroValue200
  t44 := Tryz.underlying203
  a44 := Tryz.isAgg203
  z44 := Tryz.sizeOf203
  v44 := Tryz.zeroValue203
  t46 := Tryz.underlying205
  a46 := Tryz.isAgg205
  z46 := Tryz.sizeOf205
  v46 := Tryz.zeroValue205
  t53 := Tryz.underlying246
  a53 := Tryz.isAgg246
  z53 := Tryz.sizeOf246
  v53 := Tryz.zeroValue246
  t57 := Tryz.underlying250
  a57 := Tryz.isAgg250
  z57 := Tryz.sizeOf250
  v57 := Tryz.zeroValue250
  t63 := Tryz.underlying256
  a63 := Tryz.isAgg256
  z63 := Tryz.sizeOf256
  v63 := Tryz.zeroValue256
  t64 := Tryz.underlying188
  a64 := Tryz.isAgg188
  z64 := Tryz.sizeOf188
  v64 := Tryz.zeroValue188 }
def Tryz.compact_ren : Go.Shelf.Ren := ⟨fun | 43 => 46 | n => n, fun | 22 => 97 | 23 => 3 | 3 => 3 | 4 => 4 | 0 => 0 | n => n, fun | n => n⟩
theorem Tryz.compact : Go.Proofs.SlLaysN.n43 Tryz.prog Tryz.compact_ren := {
  mixed := by kernel_rfl
  f43 := ⟨Tryz.f46.name, by decide, Tryz.func46.trans (congrArg some (by kernel_rfl))⟩
  t0 := Tryz.underlying0
  a0 := Tryz.isAgg0
  z0 := Tryz.sizeOf0
  v0 := Tryz.zeroValue0
  t3 := Tryz.underlying3
  a3 := Tryz.isAgg3
  z3 := Tryz.sizeOf3
  v3 := Tryz.zeroValue3
  t4 := Tryz.underlying4
  a4 := Tryz.isAgg4
  z4 := Tryz.sizeOf4
  v4 := Tryz.zeroValue4
  t22 := Tryz.underlying97
  a22 := Tryz.isAgg97
  z22 := Tryz.sizeOf97
  v22 := Tryz.zeroValue97
  t23 := Tryz.underlying3
  a23 := Tryz.isAgg3
  z23 := Tryz.sizeOf3
  v23 := Tryz.zeroValue3
  i23 := by kernel_rfl }
end Go.Proofs
