import Derived.Shelf.SlSortCmp.WholeK
import Derived.Shelf.SlSortCmp.NoneTotal
import Derived.Shelf.SlicesQ.IndexFunc
import Derived.Shelf.SlicesE.IndexFunc
import Derived.Ground.SlsfProg
import Derived.Ground.SlgfProg
import Derived.Test.YtblfbdlhphhfnaaGreatDoorProg
namespace Go.Proofs
open Go.Shelf
def Tryz.sortKLay_ren : Go.Shelf.Ren := ⟨fun | 6 => 23 | 15 => 47 | 14 => 46 | 28 => 70 | 29 => 71 | 20 => 62 | 21 => 63 | 22 => 64 | 23 => 65 | 24 => 66 | 25 => 67 | 26 => 68 | 27 => 69 | 46 => 89 | 47 => 90 | 48 => 91 | 49 => 92 | 50 => 93 | 57 => 103 | n => n, fun | 22 => 27 | 24 => 44 | 25 => 62 | 3 => 3 | 39 => 81 | 0 => 0 | 53 => 108 | 55 => 110 | 4 => 4 | 46 => 101 | 45 => 100 | 50 => 105 | 5 => 5 | 9 => 9 | 66 => 121 | 70 => 125 | 76 => 136 | 77 => 137 | n => n, fun | n => n⟩
theorem Tryz.sortKLay : Go.Proofs.SlLaysF0.n6 Tryz.prog Tryz.sortKLay_ren := {
  mixed := by kernel_rfl
  f6 := ⟨Tryz.f23.name, by decide, Tryz.func23.trans (congrArg some (by kernel_rfl))⟩
  f14 := ⟨Tryz.f46.name, by decide, Tryz.func46.trans (congrArg some (by kernel_rfl))⟩
  f15 := Tryz.func47.trans (congrArg some (by kernel_rfl))
  f20 := ⟨Tryz.f62.name, by decide, Tryz.func62.trans (congrArg some (by kernel_rfl))⟩
  f21 := ⟨Tryz.f63.name, by decide, Tryz.func63.trans (congrArg some (by kernel_rfl))⟩
  f22 := ⟨Tryz.f64.name, by decide, Tryz.func64.trans (congrArg some (by kernel_rfl))⟩
  f23 := ⟨Tryz.f65.name, by decide, Tryz.func65.trans (congrArg some (by kernel_rfl))⟩
  f24 := ⟨Tryz.f66.name, by decide, Tryz.func66.trans (congrArg some (by kernel_rfl))⟩
  f25 := ⟨Tryz.f67.name, by decide, Tryz.func67.trans (congrArg some (by kernel_rfl))⟩
  f26 := ⟨Tryz.f68.name, by decide, Tryz.func68.trans (congrArg some (by kernel_rfl))⟩
  f27 := ⟨Tryz.f69.name, by decide, Tryz.func69.trans (congrArg some (by kernel_rfl))⟩
  f28 := Tryz.func70.trans (congrArg some (by kernel_rfl))
  f29 := Tryz.func71.trans (congrArg some (by kernel_rfl))
  f46 := ⟨Tryz.f89.name, by decide, Tryz.func89.trans (congrArg some (by kernel_rfl))⟩
  f47 := Tryz.func90.trans (congrArg some (by kernel_rfl))
  f48 := Tryz.func91.trans (congrArg some (by kernel_rfl))
  f49 := ⟨Tryz.f92.name, by decide, Tryz.func92.trans (congrArg some (by kernel_rfl))⟩
  f50 := ⟨Tryz.f93.name, by decide, Tryz.func93.trans (congrArg some (by kernel_rfl))⟩
  f57 := ⟨Tryz.f103.name, by decide, Tryz.func103.trans (congrArg some (by kernel_rfl))⟩
  t0 := Tryz.underlying0
  a0 := Tryz.isAgg0
  z0 := Tryz.sizeOf0
  v0 := Tryz.zeroValue0
  t3 := Tryz.underlying3
  a3 := Tryz.isAgg3
  z3 := Tryz.sizeOf3
  v3 := Tryz.zeroValue3
  t4 := Tryz.underlying4
  a4 := Tryz.isAgg4
  z4 := Tryz.sizeOf4
  v4 := Tryz.zeroValue4
  t5 := Tryz.underlying5
  a5 := Tryz.isAgg5
  z5 := Tryz.sizeOf5
  v5 := Tryz.zeroValue5
  t9 := Tryz.underlying9
  a9 := Tryz.isAgg9
  z9 := Tryz.sizeOf9
  v9 := Tryz.zeroValue9
  t22 := Tryz.underlying27
  a22 := Tryz.isAgg27
  z22 := Tryz.sizeOf27
  v22 := Tryz.zeroValue27
  t25 := Tryz.underlying62
  a25 := Tryz.isAgg62
  z25 := Tryz.sizeOf62
  v25 := Tryz.zeroValue62
  t39 := Tryz.underlying81
  a39 := Tryz.isAgg81
  z39 := Tryz.sizeOf81
  v39 := Tryz.zeroValue81
  t45 := Tryz.underlying100
  a45 := Tryz.isAgg100
  z45 := Tryz.sizeOf100
  v45 := Tryz.zeroValue100
  t46 := Tryz.underlying101
  a46 := Tryz.isAgg101
  z46 := Tryz.sizeOf101
  v46 := Tryz.zeroValue101
  t50 := Tryz.underlying105
  a50 := Tryz.isAgg105
  z50 := Tryz.sizeOf105
  v50 := Tryz.zeroValue105
  t53 := Tryz.underlying108
  a53 := Tryz.isAgg108
  z53 := Tryz.sizeOf108
  v53 := Tryz.zeroValue108
  t55 := Tryz.underlying110
  a55 := Tryz.isAgg110
  z55 := Tryz.sizeOf110
  v55 := Tryz.zeroValue110
  t66 := Tryz.underlying121
  a66 := Tryz.isAgg121
  z66 := Tryz.sizeOf121
  v66 := Tryz.zeroValue121
  t70 := Tryz.underlying125
  a70 := Tryz.isAgg125
  z70 := Tryz.sizeOf125
  v70 := Tryz.zeroValue125
  t76 := Tryz.underlying136
  a76 := Tryz.isAgg136
  z76 := Tryz.sizeOf136
  v76 := Tryz.zeroValue136
  t77 := Tryz.underlying137
  a77 := Tryz.isAgg137
  z77 := Tryz.sizeOf137
  v77 := Tryz.zeroValue137 }
end Go.Proofs
