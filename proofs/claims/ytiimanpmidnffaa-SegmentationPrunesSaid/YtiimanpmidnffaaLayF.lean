/- The shelf's contract of slices.DeleteFunc, laid at this program by hand. -/
import Derived.Shelf.SlicesE.DeleteFunc
import Derived.Test.YtiimanpmidnffaaProg
namespace Go.Proofs.Ytiimanpmidnffaa.Hand
open Go.Shelf Go.Proofs
def renF : Go.Shelf.Ren := ⟨fun | 6 => 56 | 10 => 49 | n => n, fun | 22 => 24 | 23 => 3 | 3 => 3 | 4 => 4 | 0 => 0 | 25 => 83 | n => n, fun | n => n⟩
theorem layF : SlLaysH.n10 Try.prog renF := {
  mixed := by kernel_rfl
  f6 := ⟨Try.f56.name, by kernel_rfl, Try.func56.trans (congrArg some (by kernel_rfl))⟩
  f10 := ⟨Try.f49.name, by kernel_rfl, Try.func49.trans (congrArg some (by kernel_rfl))⟩
  t0 := Try.underlying0
  a0 := Try.isAgg0
  z0 := Try.sizeOf0
  v0 := Try.zeroValue0
  t3 := Try.underlying3
  a3 := Try.isAgg3
  z3 := Try.sizeOf3
  v3 := Try.zeroValue3
  t4 := Try.underlying4
  a4 := Try.isAgg4
  z4 := Try.sizeOf4
  v4 := Try.zeroValue4
  t22 := Try.underlying24
  a22 := Try.isAgg24
  z22 := Try.sizeOf24
  v22 := Try.zeroValue24
  a23 := Try.isAgg3
  z23 := Try.sizeOf3
  t25 := Try.underlying83
  a25 := Try.isAgg83
  z25 := Try.sizeOf83
  v25 := Try.zeroValue83 }
end Go.Proofs.Ytiimanpmidnffaa.Hand
