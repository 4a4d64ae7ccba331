/- slices.insertionSortCmpFunc at parcels: the kit's contract, laid at this program. -/
import Derived.Shelf.SlSortCmp.KitK
import Derived.Test.YtdlcjieaoalhoaaBusStep
set_option linter.unusedVariables false
namespace Go.Proofs.Ytdlcjieaoalhoaa.Bs
open Go.Proofs Go.Shelf Go.RowKit Go.Sort Go.Proofs.Ytdlcjieaoalhoaa
def insA_ren : Go.Shelf.Ren := ⟨fun | 20 => 33 | n => n, fun | 22 => 23 | 24 => 35 | 25 => 53 | 0 => 0 | 3 => 3 | 4 => 4 | n => n, fun n => n⟩
theorem insA : SlLaysF0.n20 Try.prog insA_ren := {
  mixed := by kernel_rfl
  f20 := ⟨Try.f33.name, by decide, Try.func33.trans (congrArg some (by kernel_rfl))⟩
  t0 := Try.underlying0
  a0 := Try.isAgg0
  z0 := Try.sizeOf0
  v0 := Try.zeroValue0
  t3 := Try.underlying3
  a3 := Try.isAgg3
  z3 := Try.sizeOf3
  v3 := Try.zeroValue3
  t4 := Try.underlying4
  a4 := Try.isAgg4
  z4 := Try.sizeOf4
  v4 := Try.zeroValue4
  t22 := Try.underlying23
  a22 := Try.isAgg23
  z22 := Try.sizeOf23
  v22 := Try.zeroValue23
  t25 := Try.underlying53
  a25 := Try.isAgg53
  z25 := Try.sizeOf53
  v25 := Try.zeroValue53 }
end Go.Proofs.Ytdlcjieaoalhoaa.Bs
