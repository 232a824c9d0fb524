/- Contracts of Go's library, laid at this dump by the kit's lay-plain.mjs. -/
import Derived.Shelf.SlicesE.Compact
import Derived.Ground.SlgnProg
import Derived.Test.YtpnpnjfflblkpaaProg
namespace Go.Proofs.Ytpnpnjfflblkpaa
open Go.Shelf Go.Proofs
def compI_ren : Go.Shelf.Ren := ⟨fun | 43 => 42 | n => n, fun | 22 => 27 | 23 => 3 | 3 => 3 | 4 => 4 | 0 => 0 | n => n, fun | n => n⟩
theorem compI : Go.Proofs.SlLaysE.n43 Try.prog compI_ren := {
  mixed := by kernel_rfl
  f43 := ⟨Try.f42.name, by decide, Try.func42.trans (congrArg some (by kernel_rfl))⟩
  t0 := Try.underlying0
  a0 := Try.isAgg0
  z0 := Try.sizeOf0
  v0 := Try.zeroValue0
  t3 := Try.underlying3
  a3 := Try.isAgg3
  z3 := Try.sizeOf3
  v3 := Try.zeroValue3
  t4 := Try.underlying4
  a4 := Try.isAgg4
  z4 := Try.sizeOf4
  v4 := Try.zeroValue4
  t22 := Try.underlying27
  a22 := Try.isAgg27
  z22 := Try.sizeOf27
  v22 := Try.zeroValue27
  a23 := Try.isAgg3
  z23 := Try.sizeOf3 }
end Go.Proofs.Ytpnpnjfflblkpaa
