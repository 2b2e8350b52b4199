/- The shelf's contracts of slices.Clone and of the insertion sort of slices.SortFunc at []changepoint.Change, laid at this program by hand. -/
import Derived.Shelf.SlSortCmp.InsertionK
import Derived.Shelf.SlicesE.Clone
import Derived.Test.YtcjgmofgfblmnaaProg
namespace Go.Proofs.Ytcjgmofgfblmnaa.HandE
open Go.Shelf Go.Proofs
def renI : Go.Shelf.Ren := ⟨fun | 20 => 92 | n => n, fun | 0 => 0 | 3 => 3 | 4 => 4 | 22 => 30 | 25 => 106 | 24 => 41 | n => n, fun | n => n⟩
theorem layI : SlLaysF0.n20 Try.prog renI := {
  mixed := by kernel_rfl
  f20 := ⟨Try.f92.name, by kernel_rfl, Try.func92.trans (congrArg some (by kernel_rfl))⟩
  t0 := Try.underlying0
  a0 := Try.isAgg0
  z0 := Try.sizeOf0
  v0 := Try.zeroValue0
  t3 := Try.underlying3
  a3 := Try.isAgg3
  z3 := Try.sizeOf3
  v3 := Try.zeroValue3
  t4 := Try.underlying4
  a4 := Try.isAgg4
  z4 := Try.sizeOf4
  v4 := Try.zeroValue4
  t22 := Try.underlying30
  a22 := Try.isAgg30
  z22 := Try.sizeOf30
  v22 := Try.zeroValue30
  t25 := Try.underlying106
  a25 := Try.isAgg106
  z25 := Try.sizeOf106
  v25 := Try.zeroValue106 }
def renE : Go.Shelf.Ren := ⟨fun | 41 => 55 | n => n, fun | 4 => 4 | 22 => 30 | 23 => 41 | n => n, fun | n => n⟩
theorem layE : SlLaysE0.n41 Try.prog renE := {
  mixed := by kernel_rfl
  f41 := ⟨Try.f55.name, by kernel_rfl, Try.func55.trans (congrArg some (by kernel_rfl))⟩
  t4 := Try.underlying4
  a4 := Try.isAgg4
  z4 := Try.sizeOf4
  v4 := Try.zeroValue4
  t22 := Try.underlying30
  a22 := Try.isAgg30
  z22 := Try.sizeOf30
  v22 := Try.zeroValue30 }
end Go.Proofs.Ytcjgmofgfblmnaa.HandE
