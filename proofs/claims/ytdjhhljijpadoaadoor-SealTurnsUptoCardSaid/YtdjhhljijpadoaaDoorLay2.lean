/- The library's contracts of slices.BinarySearch and slices.Insert at texts, laid over this seat. -/
import Derived.Test.YtdjhhljijpadoaaDoorShelf
import Derived.Shelf.Spec.SearchS
import Derived.Shelf.Spec.SlicesInsert
import Derived.Shelf.Spec.SlicesInsertGrow
set_option maxRecDepth 100000
namespace Go.Proofs.YtdjhhljijpadoaaDoor.Lay2
open Go Go.Proofs Go.Shelf Go.RowKit
def ren26 : Go.Shelf.Ren := ⟨fun | 26 => 37 | 33 => 46 | 34 => 47 | 38 => 55 | n => n, fun | 0 => 0 | 3 => 3 | 4 => 4 | 9 => 9 | 24 => 37 | 40 => 63 | n => n, fun | n => n⟩
theorem lay26 : Lays2.n26 Tryd.prog ren26 := {
  mixed := by kernel_rfl
  f26 := Tryd.func37.trans (congrArg some (by kernel_rfl))
  f33 := Tryd.func46.trans (congrArg some (by kernel_rfl))
  f34 := Tryd.func47.trans (congrArg some (by kernel_rfl))
  f38 := Tryd.func55.trans (congrArg some (by kernel_rfl))
  t0 := Tryd.underlying0
  a0 := Tryd.isAgg0
  z0 := Tryd.sizeOf0
  v0 := Tryd.zeroValue0
  t3 := Tryd.underlying3
  a3 := Tryd.isAgg3
  z3 := Tryd.sizeOf3
  v3 := Tryd.zeroValue3
  t4 := Tryd.underlying4
  a4 := Tryd.isAgg4
  z4 := Tryd.sizeOf4
  v4 := Tryd.zeroValue4
  t9 := Tryd.underlying9
  a9 := Tryd.isAgg9
  z9 := Tryd.sizeOf9
  v9 := Tryd.zeroValue9
  t24 := Tryd.underlying37
  a24 := Tryd.isAgg37
  z24 := Tryd.sizeOf37
  v24 := Tryd.zeroValue37
  t40 := Tryd.underlying63
  a40 := Tryd.isAgg63
  z40 := Tryd.sizeOf63
  v40 := Tryd.zeroValue63 }
def ren22 : Go.Shelf.Ren := ⟨fun | 17 => 59 | 22 => 38 | 29 => 48 | 30 => 49 | 36 => 56 | n => n, fun | 0 => 0 | 3 => 3 | 4 => 4 | 9 => 9 | 24 => 37 | n => n, fun | n => n⟩
theorem lay22 : Lays2.n22 Tryd.prog ren22 := {
  mixed := by kernel_rfl
  f17 := Tryd.func59.trans (congrArg some (by kernel_rfl))
  f22 := Tryd.func38.trans (congrArg some (by kernel_rfl))
  f29 := Tryd.func48.trans (congrArg some (by kernel_rfl))
  f30 := Tryd.func49.trans (congrArg some (by kernel_rfl))
  f36 := Tryd.func56.trans (congrArg some (by kernel_rfl))
  t0 := Tryd.underlying0
  a0 := Tryd.isAgg0
  z0 := Tryd.sizeOf0
  v0 := Tryd.zeroValue0
  t3 := Tryd.underlying3
  a3 := Tryd.isAgg3
  z3 := Tryd.sizeOf3
  v3 := Tryd.zeroValue3
  t4 := Tryd.underlying4
  a4 := Tryd.isAgg4
  z4 := Tryd.sizeOf4
  v4 := Tryd.zeroValue4
  t9 := Tryd.underlying9
  a9 := Tryd.isAgg9
  z9 := Tryd.sizeOf9
  v9 := Tryd.zeroValue9
  t24 := Tryd.underlying37
  a24 := Tryd.isAgg37
  z24 := Tryd.sizeOf37
  v24 := Tryd.zeroValue37
  i9 := by kernel_rfl }
end Go.Proofs.YtdjhhljijpadoaaDoor.Lay2
