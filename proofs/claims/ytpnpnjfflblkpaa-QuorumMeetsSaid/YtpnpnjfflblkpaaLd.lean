/- Contracts of Go's library, laid at this dump by the kit's lay-plain.mjs. -/
import Derived.Shelf.SlSortCmp.InsertionK
import Derived.Ground.SlsfProg
import Derived.Test.YtpnpnjfflblkpaaProg
namespace Go.Proofs.Ytpnpnjfflblkpaa
open Go.Shelf Go.Proofs
def insS_ren : Go.Shelf.Ren := ⟨fun | 20 => 88 | n => n, fun | 24 => 26 | 22 => 37 | 3 => 3 | 25 => 90 | 4 => 4 | 0 => 0 | n => n, fun | n => n⟩
theorem insS : Go.Proofs.SlLaysF0.n20 Try.prog insS_ren := {
  mixed := by kernel_rfl
  f20 := ⟨Try.f88.name, by decide, Try.func88.trans (congrArg some (by kernel_rfl))⟩
  t0 := Try.underlying0
  a0 := Try.isAgg0
  z0 := Try.sizeOf0
  v0 := Try.zeroValue0
  t3 := Try.underlying3
  a3 := Try.isAgg3
  z3 := Try.sizeOf3
  v3 := Try.zeroValue3
  t4 := Try.underlying4
  a4 := Try.isAgg4
  z4 := Try.sizeOf4
  v4 := Try.zeroValue4
  t22 := Try.underlying37
  a22 := Try.isAgg37
  z22 := Try.sizeOf37
  v22 := Try.zeroValue37
  t25 := Try.underlying90
  a25 := Try.isAgg90
  z25 := Try.sizeOf90
  v25 := Try.zeroValue90 }
end Go.Proofs.Ytpnpnjfflblkpaa
