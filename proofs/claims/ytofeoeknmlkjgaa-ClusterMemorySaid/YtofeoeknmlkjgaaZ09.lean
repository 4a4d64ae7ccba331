/- Merged: LaySort. -/
import Derived.Ground.SlgmProg
import Derived.Shelf.SortM.Plain
import Derived.Shelf.SortM.SortNone
import Derived.Test.YtofeoeknmlkjgaaProg
set_option linter.unusedVariables false
set_option linter.unusedSimpArgs false
section
/- slices.Sort at this program: laid by the kit tool (once printed for seat C, the numbers by name). -/

namespace Go.Proofs.Ytofeoeknmlkjgaa
open Go.Proofs Go.Shelf
def sortA_ren : Go.Shelf.Ren := ⟨fun | 5 => 54 | 8 => 68 | 7 => 67 | 19 => 86 | 20 => 87 | 10 => 77 | 11 => 78 | 12 => 79 | 13 => 80 | 14 => 81 | 15 => 82 | 16 => 83 | 17 => 84 | 18 => 85 | 30 => 98 | 31 => 99 | 32 => 100 | 33 => 101 | 34 => 102 | 35 => 103 | 40 => 112 | n => n, fun | 23 => 58 | 25 => 3 | 3 => 3 | 32 => 119 | 22 => 58 | 0 => 0 | 44 => 153 | 46 => 155 | 4 => 4 | 36 => 145 | 35 => 144 | 41 => 150 | 5 => 5 | 9 => 9 | 53 => 164 | 57 => 168 | 63 => 182 | 64 => 183 | n => n, fun | n => n⟩
theorem sortA : Go.Proofs.SlLaysM.n5 Try.prog sortA_ren := {
  mixed := by kernel_rfl
  f5 := ⟨Try.f54.name, by decide, Try.func54.trans (congrArg some (by kernel_rfl))⟩
  f7 := ⟨Try.f67.name, by decide, Try.func67.trans (congrArg some (by kernel_rfl))⟩
  f8 := Try.func68.trans (congrArg some (by kernel_rfl))
  f10 := ⟨Try.f77.name, by decide, Try.func77.trans (congrArg some (by kernel_rfl))⟩
  f11 := ⟨Try.f78.name, by decide, Try.func78.trans (congrArg some (by kernel_rfl))⟩
  f12 := ⟨Try.f79.name, by decide, Try.func79.trans (congrArg some (by kernel_rfl))⟩
  f13 := ⟨Try.f80.name, by decide, Try.func80.trans (congrArg some (by kernel_rfl))⟩
  f14 := ⟨Try.f81.name, by decide, Try.func81.trans (congrArg some (by kernel_rfl))⟩
  f15 := ⟨Try.f82.name, by decide, Try.func82.trans (congrArg some (by kernel_rfl))⟩
  f16 := ⟨Try.f83.name, by decide, Try.func83.trans (congrArg some (by kernel_rfl))⟩
  f17 := ⟨Try.f84.name, by decide, Try.func84.trans (congrArg some (by kernel_rfl))⟩
  f18 := ⟨Try.f85.name, by decide, Try.func85.trans (congrArg some (by kernel_rfl))⟩
  f19 := Try.func86.trans (congrArg some (by kernel_rfl))
  f20 := Try.func87.trans (congrArg some (by kernel_rfl))
  f30 := ⟨Try.f98.name, by decide, Try.func98.trans (congrArg some (by kernel_rfl))⟩
  f31 := Try.func99.trans (congrArg some (by kernel_rfl))
  f32 := Try.func100.trans (congrArg some (by kernel_rfl))
  f33 := ⟨Try.f101.name, by decide, Try.func101.trans (congrArg some (by kernel_rfl))⟩
  f34 := ⟨Try.f102.name, by decide, Try.func102.trans (congrArg some (by kernel_rfl))⟩
  f35 := ⟨Try.f103.name, by decide, Try.func103.trans (congrArg some (by kernel_rfl))⟩
  f40 := ⟨Try.f112.name, by decide, Try.func112.trans (congrArg some (by kernel_rfl))⟩
  t0 := Try.underlying0
  a0 := Try.isAgg0
  z0 := Try.sizeOf0
  v0 := Try.zeroValue0
  t3 := Try.underlying3
  a3 := Try.isAgg3
  z3 := Try.sizeOf3
  v3 := Try.zeroValue3
  t4 := Try.underlying4
  a4 := Try.isAgg4
  z4 := Try.sizeOf4
  v4 := Try.zeroValue4
  t5 := Try.underlying5
  a5 := Try.isAgg5
  z5 := Try.sizeOf5
  v5 := Try.zeroValue5
  t9 := Try.underlying9
  a9 := Try.isAgg9
  z9 := Try.sizeOf9
  v9 := Try.zeroValue9
  t22 := Try.underlying58
  a22 := Try.isAgg58
  z22 := Try.sizeOf58
  v22 := Try.zeroValue58
  t23 := Try.underlying58
  a23 := Try.isAgg58
  z23 := Try.sizeOf58
  v23 := Try.zeroValue58
  t25 := Try.underlying3
  a25 := Try.isAgg3
  z25 := Try.sizeOf3
  v25 := Try.zeroValue3
  t32 := Try.underlying119
  a32 := Try.isAgg119
  z32 := Try.sizeOf119
  v32 := Try.zeroValue119
  t35 := Try.underlying144
  a35 := Try.isAgg144
  z35 := Try.sizeOf144
  v35 := Try.zeroValue144
  t36 := Try.underlying145
  a36 := Try.isAgg145
  z36 := Try.sizeOf145
  v36 := Try.zeroValue145
  t41 := Try.underlying150
  a41 := Try.isAgg150
  z41 := Try.sizeOf150
  v41 := Try.zeroValue150
  t44 := Try.underlying153
  a44 := Try.isAgg153
  z44 := Try.sizeOf153
  v44 := Try.zeroValue153
  t46 := Try.underlying155
  a46 := Try.isAgg155
  z46 := Try.sizeOf155
  v46 := Try.zeroValue155
  t53 := Try.underlying164
  a53 := Try.isAgg164
  z53 := Try.sizeOf164
  v53 := Try.zeroValue164
  t57 := Try.underlying168
  a57 := Try.isAgg168
  z57 := Try.sizeOf168
  v57 := Try.zeroValue168
  t63 := Try.underlying182
  a63 := Try.isAgg182
  z63 := Try.sizeOf182
  v63 := Try.zeroValue182
  t64 := Try.underlying183
  a64 := Try.isAgg183
  z64 := Try.sizeOf183
  v64 := Try.zeroValue183 }
end Go.Proofs.Ytofeoeknmlkjgaa
end
