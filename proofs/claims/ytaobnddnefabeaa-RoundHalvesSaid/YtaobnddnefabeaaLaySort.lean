/- slices.Sort at this program: laid by the kit tool (numbers of seat C). -/
import Derived.Shelf.SortM.Plain
import Derived.Shelf.SortM.SortNone

import Derived.Ground.SlgmProg
import Derived.Test.YtaobnddnefabeaaProg
namespace Go.Proofs.Ytaobnddnefabeaa
open Go.Proofs Go.Shelf
def sortA_ren : Go.Shelf.Ren := ⟨fun | 5 => 52 | 8 => 58 | 7 => 57 | 19 => 69 | 20 => 70 | 10 => 60 | 11 => 61 | 12 => 62 | 13 => 63 | 14 => 64 | 15 => 65 | 16 => 66 | 17 => 67 | 18 => 68 | 30 => 72 | 31 => 73 | 32 => 74 | 33 => 75 | 34 => 76 | 35 => 48 | 40 => 77 | n => n, fun | 23 => 51 | 25 => 3 | 3 => 3 | 32 => 80 | 22 => 51 | 0 => 0 | 44 => 95 | 46 => 97 | 4 => 4 | 36 => 88 | 35 => 87 | 41 => 92 | 5 => 5 | 9 => 9 | 53 => 98 | 57 => 102 | 63 => 104 | 64 => 105 | n => n, fun | n => n⟩
theorem sortA : Go.Proofs.SlLaysM.n5 Try.prog sortA_ren := {
  mixed := by kernel_rfl
  f5 := ⟨Try.f52.name, by decide, Try.func52.trans (congrArg some (by kernel_rfl))⟩
  f7 := ⟨Try.f57.name, by decide, Try.func57.trans (congrArg some (by kernel_rfl))⟩
  f8 := Try.func58.trans (congrArg some (by kernel_rfl))
  f10 := ⟨Try.f60.name, by decide, Try.func60.trans (congrArg some (by kernel_rfl))⟩
  f11 := ⟨Try.f61.name, by decide, Try.func61.trans (congrArg some (by kernel_rfl))⟩
  f12 := ⟨Try.f62.name, by decide, Try.func62.trans (congrArg some (by kernel_rfl))⟩
  f13 := ⟨Try.f63.name, by decide, Try.func63.trans (congrArg some (by kernel_rfl))⟩
  f14 := ⟨Try.f64.name, by decide, Try.func64.trans (congrArg some (by kernel_rfl))⟩
  f15 := ⟨Try.f65.name, by decide, Try.func65.trans (congrArg some (by kernel_rfl))⟩
  f16 := ⟨Try.f66.name, by decide, Try.func66.trans (congrArg some (by kernel_rfl))⟩
  f17 := ⟨Try.f67.name, by decide, Try.func67.trans (congrArg some (by kernel_rfl))⟩
  f18 := ⟨Try.f68.name, by decide, Try.func68.trans (congrArg some (by kernel_rfl))⟩
  f19 := Try.func69.trans (congrArg some (by kernel_rfl))
  f20 := Try.func70.trans (congrArg some (by kernel_rfl))
  f30 := ⟨Try.f72.name, by decide, Try.func72.trans (congrArg some (by kernel_rfl))⟩
  f31 := Try.func73.trans (congrArg some (by kernel_rfl))
  f32 := Try.func74.trans (congrArg some (by kernel_rfl))
  f33 := ⟨Try.f75.name, by decide, Try.func75.trans (congrArg some (by kernel_rfl))⟩
  f34 := ⟨Try.f76.name, by decide, Try.func76.trans (congrArg some (by kernel_rfl))⟩
  f35 := ⟨Try.f48.name, by decide, Try.func48.trans (congrArg some (by kernel_rfl))⟩
  f40 := ⟨Try.f77.name, by decide, Try.func77.trans (congrArg some (by kernel_rfl))⟩
  t0 := Try.underlying0
  a0 := Try.isAgg0
  z0 := Try.sizeOf0
  v0 := Try.zeroValue0
  t3 := Try.underlying3
  a3 := Try.isAgg3
  z3 := Try.sizeOf3
  v3 := Try.zeroValue3
  t4 := Try.underlying4
  a4 := Try.isAgg4
  z4 := Try.sizeOf4
  v4 := Try.zeroValue4
  t5 := Try.underlying5
  a5 := Try.isAgg5
  z5 := Try.sizeOf5
  v5 := Try.zeroValue5
  t9 := Try.underlying9
  a9 := Try.isAgg9
  z9 := Try.sizeOf9
  v9 := Try.zeroValue9
  t22 := Try.underlying51
  a22 := Try.isAgg51
  z22 := Try.sizeOf51
  v22 := Try.zeroValue51
  t23 := Try.underlying51
  a23 := Try.isAgg51
  z23 := Try.sizeOf51
  v23 := Try.zeroValue51
  t25 := Try.underlying3
  a25 := Try.isAgg3
  z25 := Try.sizeOf3
  v25 := Try.zeroValue3
  t32 := Try.underlying80
  a32 := Try.isAgg80
  z32 := Try.sizeOf80
  v32 := Try.zeroValue80
  t35 := Try.underlying87
  a35 := Try.isAgg87
  z35 := Try.sizeOf87
  v35 := Try.zeroValue87
  t36 := Try.underlying88
  a36 := Try.isAgg88
  z36 := Try.sizeOf88
  v36 := Try.zeroValue88
  t41 := Try.underlying92
  a41 := Try.isAgg92
  z41 := Try.sizeOf92
  v41 := Try.zeroValue92
  t44 := Try.underlying95
  a44 := Try.isAgg95
  z44 := Try.sizeOf95
  v44 := Try.zeroValue95
  t46 := Try.underlying97
  a46 := Try.isAgg97
  z46 := Try.sizeOf97
  v46 := Try.zeroValue97
  t53 := Try.underlying98
  a53 := Try.isAgg98
  z53 := Try.sizeOf98
  v53 := Try.zeroValue98
  t57 := Try.underlying102
  a57 := Try.isAgg102
  z57 := Try.sizeOf102
  v57 := Try.zeroValue102
  t63 := Try.underlying104
  a63 := Try.isAgg104
  z63 := Try.sizeOf104
  v63 := Try.zeroValue104
  t64 := Try.underlying105
  a64 := Try.isAgg105
  z64 := Try.sizeOf105
  v64 := Try.zeroValue105 }
end Go.Proofs.Ytaobnddnefabeaa
