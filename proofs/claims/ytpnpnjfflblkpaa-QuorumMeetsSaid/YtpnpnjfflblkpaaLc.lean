/- Contracts of Go's library, laid at this dump by the kit's lay-plain.mjs. -/
import Derived.Shelf.SlicesE.DeleteFunc
import Derived.Ground.SlgfProg
import Derived.Test.YtpnpnjfflblkpaaProg
namespace Go.Proofs.Ytpnpnjfflblkpaa
open Go.Shelf Go.Proofs
def delF_ren : Go.Shelf.Ren := ⟨fun | 10 => 38 | 6 => 54 | n => n, fun | 22 => 27 | 23 => 3 | 25 => 39 | 3 => 3 | 4 => 4 | 0 => 0 | n => n, fun | n => n⟩
theorem delF : Go.Proofs.SlLaysH.n10 Try.prog delF_ren := {
  mixed := by kernel_rfl
  f6 := ⟨Try.f54.name, by decide, Try.func54.trans (congrArg some (by kernel_rfl))⟩
  f10 := ⟨Try.f38.name, by decide, Try.func38.trans (congrArg some (by kernel_rfl))⟩
  t0 := Try.underlying0
  a0 := Try.isAgg0
  z0 := Try.sizeOf0
  v0 := Try.zeroValue0
  t3 := Try.underlying3
  a3 := Try.isAgg3
  z3 := Try.sizeOf3
  v3 := Try.zeroValue3
  t4 := Try.underlying4
  a4 := Try.isAgg4
  z4 := Try.sizeOf4
  v4 := Try.zeroValue4
  t22 := Try.underlying27
  a22 := Try.isAgg27
  z22 := Try.sizeOf27
  v22 := Try.zeroValue27
  a23 := Try.isAgg3
  z23 := Try.sizeOf3
  t25 := Try.underlying39
  a25 := Try.isAgg39
  z25 := Try.sizeOf39
  v25 := Try.zeroValue39 }
end Go.Proofs.Ytpnpnjfflblkpaa
