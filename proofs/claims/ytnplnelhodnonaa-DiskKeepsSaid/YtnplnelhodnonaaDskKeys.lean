/- The segments' numbers: out of the shelf. -/
import Derived.Test.YtnplnelhodnonaaDskAw
import Derived.Shelf.SlIterI.Nil
namespace Go.Proofs.Ytnplnelhodnonaa.Dsk
open Go.RowKit Go.Proofs.YtnplnelhodnonaaW.PrintWords Go.Proofs.YtnplnelhodnonaaW.PrintLast Go.Proofs.YtnplnelhodnonaaW.PrintMore
open Amap Frm Go.Shelf
set_option linter.unusedVariables false
set_option linter.unusedSimpArgs false
def renK : Go.Shelf.Ren := ⟨fun | 7 => 48 | 10 => 67 | n => n, fun | 0 => 0 | 3 => 86 | 4 => 4 | 23 => 77 | 26 => 3 | 27 => 83 | 28 => 84 | 33 => 105 | n => n, fun n => n⟩
def renS : Go.Shelf.Ren := ⟨fun | 6 => 47 | 8 => 65 | 9 => 66 | 11 => 73 | n => n, fun | 0 => 0 | 24 => 31 | 26 => 3 | 27 => 83 | 28 => 84 | 33 => 105 | n => n, fun n => n⟩
theorem layK : SlLaysZI.n7 Try.prog renK where
  mixed := by kernel_rfl
  f7 := ⟨Try.f48.name, by decide +kernel, Try.func48.trans (congrArg some (by kernel_rfl))⟩
  f10 := ⟨Try.f67.name, by decide +kernel, Try.func67.trans (congrArg some (by kernel_rfl))⟩
  t0 := Try.underlying0
  a0 := Try.isAgg0
  z0 := Try.sizeOf0
  v0 := Try.zeroValue0
  t4 := Try.underlying4
  a4 := Try.isAgg4
  z4 := Try.sizeOf4
  v4 := Try.zeroValue4
  t23 := Try.underlying77
  a23 := Try.isAgg77
  z23 := Try.sizeOf77
  v23 := Try.zeroValue77
  t26 := Try.underlying3
  a26 := Try.isAgg3
  z26 := Try.sizeOf3
  v26 := Try.zeroValue3
  t27 := Try.underlying83
  a27 := Try.isAgg83
  z27 := Try.sizeOf83
  v27 := Try.zeroValue83
  t28 := Try.underlying84
  a28 := Try.isAgg84
  z28 := Try.sizeOf84
  v28 := Try.zeroValue84
  t33 := Try.underlying105
  a33 := Try.isAgg105
  z33 := Try.sizeOf105
  v33 := Try.zeroValue105
theorem layS : SlLaysZI.n6 Try.prog renS where
  mixed := by kernel_rfl
  f6 := ⟨Try.f47.name, by decide +kernel, Try.func47.trans (congrArg some (by kernel_rfl))⟩
  f8 := ⟨Try.f65.name, by decide +kernel, Try.func65.trans (congrArg some (by kernel_rfl))⟩
  f11 := ⟨Try.f73.name, by decide +kernel, Try.func73.trans (congrArg some (by kernel_rfl))⟩
  t0 := Try.underlying0
  a0 := Try.isAgg0
  z0 := Try.sizeOf0
  v0 := Try.zeroValue0
  t24 := Try.underlying31
  a24 := Try.isAgg31
  z24 := Try.sizeOf31
  v24 := Try.zeroValue31
  t26 := Try.underlying3
  a26 := Try.isAgg3
  z26 := Try.sizeOf3
  v26 := Try.zeroValue3
  t28 := Try.underlying84
  a28 := Try.isAgg84
  z28 := Try.sizeOf84
  v28 := Try.zeroValue84
  i26 := by kernel_rfl
end Go.Proofs.Ytnplnelhodnonaa.Dsk
