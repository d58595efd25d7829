/-
  DERIVED: THE SHELF's CONTRACTS AT THIS DUMP, IN PLAIN WORDS (tools/lay-plain.mjs out of 'YtbhbabimfkiibaaDoorSh.lean', which tools/lay-shelf.mjs wrote): THE SAME DECLARATIONS UNDER THE SAME NAMES: 'import', 'namespace', 'open', 'def', 'theorem' AND NOTHING ELSE: no command of the shelf's: FOR A HAND-IN. Each laying: the table of numbers ('.._ren') and one theorem, a field a fact of the dump's own or the kernel's comparison; each contract: ONE APPLICATION.
-/
import Derived.Shelf.SortM.Plain
import Derived.Shelf.SortM.SortNone
import Derived.Ground.SlgmProg
import Derived.Shelf.SlGeneric
import Derived.Test.YtbhbabimfkiibaaDoorProg
namespace Go.Proofs
open Go.Shelf
def Tryd.sortA_ren : Go.Shelf.Ren := ⟨fun | 5 => 49 | 8 => 60 | 7 => 59 | 19 => 75 | 20 => 76 | 10 => 66 | 11 => 67 | 12 => 68 | 13 => 69 | 14 => 70 | 15 => 71 | 16 => 72 | 17 => 73 | 18 => 74 | 30 => 81 | 31 => 82 | 32 => 83 | 33 => 84 | 34 => 85 | 35 => 86 | 40 => 90 | n => n, fun | 23 => 24 | 25 => 3 | 3 => 3 | 32 => 106 | 22 => 24 | 0 => 0 | 44 => 133 | 46 => 135 | 4 => 4 | 36 => 126 | 35 => 125 | 41 => 130 | 5 => 5 | 9 => 9 | 53 => 141 | 57 => 145 | 63 => 150 | 64 => 151 | n => n, fun | n => n⟩
theorem Tryd.sortA : Go.Proofs.SlLaysM.n5 Tryd.prog Tryd.sortA_ren := {
  mixed := by kernel_rfl
  f5 := ⟨Tryd.f49.name, by decide, Tryd.func49.trans (congrArg some (by kernel_rfl))⟩
  f7 := ⟨Tryd.f59.name, by decide, Tryd.func59.trans (congrArg some (by kernel_rfl))⟩
  f8 := Tryd.func60.trans (congrArg some (by kernel_rfl))
  f10 := ⟨Tryd.f66.name, by decide, Tryd.func66.trans (congrArg some (by kernel_rfl))⟩
  f11 := ⟨Tryd.f67.name, by decide, Tryd.func67.trans (congrArg some (by kernel_rfl))⟩
  f12 := ⟨Tryd.f68.name, by decide, Tryd.func68.trans (congrArg some (by kernel_rfl))⟩
  f13 := ⟨Tryd.f69.name, by decide, Tryd.func69.trans (congrArg some (by kernel_rfl))⟩
  f14 := ⟨Tryd.f70.name, by decide, Tryd.func70.trans (congrArg some (by kernel_rfl))⟩
  f15 := ⟨Tryd.f71.name, by decide, Tryd.func71.trans (congrArg some (by kernel_rfl))⟩
  f16 := ⟨Tryd.f72.name, by decide, Tryd.func72.trans (congrArg some (by kernel_rfl))⟩
  f17 := ⟨Tryd.f73.name, by decide, Tryd.func73.trans (congrArg some (by kernel_rfl))⟩
  f18 := ⟨Tryd.f74.name, by decide, Tryd.func74.trans (congrArg some (by kernel_rfl))⟩
  f19 := Tryd.func75.trans (congrArg some (by kernel_rfl))
  f20 := Tryd.func76.trans (congrArg some (by kernel_rfl))
  f30 := ⟨Tryd.f81.name, by decide, Tryd.func81.trans (congrArg some (by kernel_rfl))⟩
  f31 := Tryd.func82.trans (congrArg some (by kernel_rfl))
  f32 := Tryd.func83.trans (congrArg some (by kernel_rfl))
  f33 := ⟨Tryd.f84.name, by decide, Tryd.func84.trans (congrArg some (by kernel_rfl))⟩
  f34 := ⟨Tryd.f85.name, by decide, Tryd.func85.trans (congrArg some (by kernel_rfl))⟩
  f35 := ⟨Tryd.f86.name, by decide, Tryd.func86.trans (congrArg some (by kernel_rfl))⟩
  f40 := ⟨Tryd.f90.name, by decide, Tryd.func90.trans (congrArg some (by kernel_rfl))⟩
  t0 := Tryd.underlying0
  a0 := Tryd.isAgg0
  z0 := Tryd.sizeOf0
  v0 := Tryd.zeroValue0
  t3 := Tryd.underlying3
  a3 := Tryd.isAgg3
  z3 := Tryd.sizeOf3
  v3 := Tryd.zeroValue3
  t4 := Tryd.underlying4
  a4 := Tryd.isAgg4
  z4 := Tryd.sizeOf4
  v4 := Tryd.zeroValue4
  t5 := Tryd.underlying5
  a5 := Tryd.isAgg5
  z5 := Tryd.sizeOf5
  v5 := Tryd.zeroValue5
  t9 := Tryd.underlying9
  a9 := Tryd.isAgg9
  z9 := Tryd.sizeOf9
  v9 := Tryd.zeroValue9
  t22 := Tryd.underlying24
  a22 := Tryd.isAgg24
  z22 := Tryd.sizeOf24
  v22 := Tryd.zeroValue24
  t23 := Tryd.underlying24
  a23 := Tryd.isAgg24
  z23 := Tryd.sizeOf24
  v23 := Tryd.zeroValue24
  t25 := Tryd.underlying3
  a25 := Tryd.isAgg3
  z25 := Tryd.sizeOf3
  v25 := Tryd.zeroValue3
  t32 := Tryd.underlying106
  a32 := Tryd.isAgg106
  z32 := Tryd.sizeOf106
  v32 := Tryd.zeroValue106
  t35 := Tryd.underlying125
  a35 := Tryd.isAgg125
  z35 := Tryd.sizeOf125
  v35 := Tryd.zeroValue125
  t36 := Tryd.underlying126
  a36 := Tryd.isAgg126
  z36 := Tryd.sizeOf126
  v36 := Tryd.zeroValue126
  t41 := Tryd.underlying130
  a41 := Tryd.isAgg130
  z41 := Tryd.sizeOf130
  v41 := Tryd.zeroValue130
  t44 := Tryd.underlying133
  a44 := Tryd.isAgg133
  z44 := Tryd.sizeOf133
  v44 := Tryd.zeroValue133
  t46 := Tryd.underlying135
  a46 := Tryd.isAgg135
  z46 := Tryd.sizeOf135
  v46 := Tryd.zeroValue135
  t53 := Tryd.underlying141
  a53 := Tryd.isAgg141
  z53 := Tryd.sizeOf141
  v53 := Tryd.zeroValue141
  t57 := Tryd.underlying145
  a57 := Tryd.isAgg145
  z57 := Tryd.sizeOf145
  v57 := Tryd.zeroValue145
  t63 := Tryd.underlying150
  a63 := Tryd.isAgg150
  z63 := Tryd.sizeOf150
  v63 := Tryd.zeroValue150
  t64 := Tryd.underlying151
  a64 := Tryd.isAgg151
  z64 := Tryd.sizeOf151
  v64 := Tryd.zeroValue151 }
end Go.Proofs
