/- The shelf's maps.Keys, slices.Sorted, slices.Sort of strings at this program (printed by genLayR.py). -/
import Derived.Test.YtdhlbhkpleoicaaDoorProg
import Derived.Shelf.SlIter.Nil
import Derived.Shelf.SortM.Plain
import Derived.Shelf.SortM.SortNone
namespace Go.Proofs.YtdhlbhkpleoicaaDoor.Exp
open Go.RowKit Go.Shelf
set_option linter.unusedVariables false
set_option maxRecDepth 100000
def renK : Go.Shelf.Ren := ⟨fun | 7 => 30 | 10 => 46 | n => n, fun | 23 => 64 | 26 => 9 | 3 => 4 | 28 => 71 | 0 => 0 | 27 => 70 | 33 => 79 | 4 => 4 | n => n, fun n => n⟩
theorem layK : SlLaysZ.n7 Tryd.prog renK where
  mixed := by kernel_rfl
  f7 := ⟨Tryd.f30.name, by decide +kernel, Tryd.func30.trans (congrArg some (by kernel_rfl))⟩
  f10 := ⟨Tryd.f46.name, by decide +kernel, Tryd.func46.trans (congrArg some (by kernel_rfl))⟩
  t0 := Tryd.underlying0
  a0 := Tryd.isAgg0
  z0 := Tryd.sizeOf0
  v0 := Tryd.zeroValue0
  t4 := Tryd.underlying4
  a4 := Tryd.isAgg4
  z4 := Tryd.sizeOf4
  v4 := Tryd.zeroValue4
  t23 := Tryd.underlying64
  a23 := Tryd.isAgg64
  z23 := Tryd.sizeOf64
  v23 := Tryd.zeroValue64
  t26 := Tryd.underlying9
  a26 := Tryd.isAgg9
  z26 := Tryd.sizeOf9
  v26 := Tryd.zeroValue9
  t27 := Tryd.underlying70
  a27 := Tryd.isAgg70
  z27 := Tryd.sizeOf70
  v27 := Tryd.zeroValue70
  t28 := Tryd.underlying71
  a28 := Tryd.isAgg71
  z28 := Tryd.sizeOf71
  v28 := Tryd.zeroValue71
  t33 := Tryd.underlying79
  a33 := Tryd.isAgg79
  z33 := Tryd.sizeOf79
  v33 := Tryd.zeroValue79
def renS : Go.Shelf.Ren := ⟨fun | 6 => 29 | 8 => 44 | 9 => 45 | 11 => 58 | 13 => 60 | 12 => 59 | 23 => 73 | 24 => 74 | 14 => 64 | 15 => 65 | 16 => 66 | 17 => 67 | 18 => 68 | 19 => 69 | 20 => 70 | 21 => 71 | 22 => 72 | 25 => 77 | 26 => 78 | 27 => 79 | 28 => 80 | 29 => 81 | 30 => 82 | 31 => 83 | n => n, fun | 26 => 9 | 28 => 71 | 24 => 42 | 0 => 0 | 3 => 3 | 37 => 101 | 48 => 112 | 50 => 114 | 4 => 4 | 40 => 104 | 39 => 103 | 45 => 109 | 5 => 5 | 9 => 9 | 51 => 115 | 55 => 119 | 57 => 125 | 58 => 96 | 33 => 79 | n => n, fun n => n⟩
theorem layS : SlLaysZ.n6 Tryd.prog renS where
  mixed := by kernel_rfl
  f6 := ⟨Tryd.f29.name, by decide +kernel, Tryd.func29.trans (congrArg some (by kernel_rfl))⟩
  f8 := ⟨Tryd.f44.name, by decide +kernel, Tryd.func44.trans (congrArg some (by kernel_rfl))⟩
  f11 := ⟨Tryd.f58.name, by decide +kernel, Tryd.func58.trans (congrArg some (by kernel_rfl))⟩
  t0 := Tryd.underlying0
  a0 := Tryd.isAgg0
  z0 := Tryd.sizeOf0
  v0 := Tryd.zeroValue0
  t24 := Tryd.underlying42
  a24 := Tryd.isAgg42
  z24 := Tryd.sizeOf42
  v24 := Tryd.zeroValue42
  t26 := Tryd.underlying9
  a26 := Tryd.isAgg9
  z26 := Tryd.sizeOf9
  v26 := Tryd.zeroValue9
  t28 := Tryd.underlying71
  a28 := Tryd.isAgg71
  z28 := Tryd.sizeOf71
  v28 := Tryd.zeroValue71
  i26 := by kernel_rfl
def renM : Go.Shelf.Ren := ⟨fun | 6 => 45 | 8 => 60 | 9 => 59 | 19 => 73 | 20 => 74 | 21 => 64 | 22 => 65 | 23 => 66 | 24 => 67 | 25 => 68 | 26 => 69 | 27 => 70 | 28 => 71 | 29 => 72 | 36 => 77 | 31 => 78 | 32 => 79 | 37 => 80 | 38 => 81 | 39 => 82 | 41 => 83 | n => n, fun | 27 => 42 | 29 => 9 | 3 => 3 | 32 => 101 | 26 => 42 | 0 => 0 | 44 => 112 | 46 => 114 | 4 => 4 | 36 => 104 | 35 => 103 | 41 => 109 | 5 => 5 | 9 => 9 | 53 => 115 | 57 => 119 | 63 => 125 | 64 => 96 | n => n, fun n => n⟩
theorem layM : SlLaysM.n6 Tryd.prog renM where
  mixed := by kernel_rfl
  f6 := ⟨Tryd.f45.name, by decide +kernel, Tryd.func45.trans (congrArg some (by kernel_rfl))⟩
  f8 := Tryd.func60.trans (congrArg some (by kernel_rfl))
  f9 := ⟨Tryd.f59.name, by decide +kernel, Tryd.func59.trans (congrArg some (by kernel_rfl))⟩
  f19 := Tryd.func73.trans (congrArg some (by kernel_rfl))
  f20 := Tryd.func74.trans (congrArg some (by kernel_rfl))
  f21 := ⟨Tryd.f64.name, by decide +kernel, Tryd.func64.trans (congrArg some (by kernel_rfl))⟩
  f22 := ⟨Tryd.f65.name, by decide +kernel, Tryd.func65.trans (congrArg some (by kernel_rfl))⟩
  f23 := ⟨Tryd.f66.name, by decide +kernel, Tryd.func66.trans (congrArg some (by kernel_rfl))⟩
  f24 := ⟨Tryd.f67.name, by decide +kernel, Tryd.func67.trans (congrArg some (by kernel_rfl))⟩
  f25 := ⟨Tryd.f68.name, by decide +kernel, Tryd.func68.trans (congrArg some (by kernel_rfl))⟩
  f26 := ⟨Tryd.f69.name, by decide +kernel, Tryd.func69.trans (congrArg some (by kernel_rfl))⟩
  f27 := ⟨Tryd.f70.name, by decide +kernel, Tryd.func70.trans (congrArg some (by kernel_rfl))⟩
  f28 := ⟨Tryd.f71.name, by decide +kernel, Tryd.func71.trans (congrArg some (by kernel_rfl))⟩
  f29 := ⟨Tryd.f72.name, by decide +kernel, Tryd.func72.trans (congrArg some (by kernel_rfl))⟩
  f31 := Tryd.func78.trans (congrArg some (by kernel_rfl))
  f32 := Tryd.func79.trans (congrArg some (by kernel_rfl))
  f36 := ⟨Tryd.f77.name, by decide +kernel, Tryd.func77.trans (congrArg some (by kernel_rfl))⟩
  f37 := ⟨Tryd.f80.name, by decide +kernel, Tryd.func80.trans (congrArg some (by kernel_rfl))⟩
  f38 := ⟨Tryd.f81.name, by decide +kernel, Tryd.func81.trans (congrArg some (by kernel_rfl))⟩
  f39 := ⟨Tryd.f82.name, by decide +kernel, Tryd.func82.trans (congrArg some (by kernel_rfl))⟩
  f41 := ⟨Tryd.f83.name, by decide +kernel, Tryd.func83.trans (congrArg some (by kernel_rfl))⟩
  t0 := Tryd.underlying0
  a0 := Tryd.isAgg0
  z0 := Tryd.sizeOf0
  v0 := Tryd.zeroValue0
  t3 := Tryd.underlying3
  a3 := Tryd.isAgg3
  z3 := Tryd.sizeOf3
  v3 := Tryd.zeroValue3
  t4 := Tryd.underlying4
  a4 := Tryd.isAgg4
  z4 := Tryd.sizeOf4
  v4 := Tryd.zeroValue4
  t5 := Tryd.underlying5
  a5 := Tryd.isAgg5
  z5 := Tryd.sizeOf5
  v5 := Tryd.zeroValue5
  t9 := Tryd.underlying9
  a9 := Tryd.isAgg9
  z9 := Tryd.sizeOf9
  v9 := Tryd.zeroValue9
  t26 := Tryd.underlying42
  a26 := Tryd.isAgg42
  z26 := Tryd.sizeOf42
  v26 := Tryd.zeroValue42
  t27 := Tryd.underlying42
  a27 := Tryd.isAgg42
  z27 := Tryd.sizeOf42
  v27 := Tryd.zeroValue42
  t29 := Tryd.underlying9
  a29 := Tryd.isAgg9
  z29 := Tryd.sizeOf9
  v29 := Tryd.zeroValue9
  t32 := Tryd.underlying101
  a32 := Tryd.isAgg101
  z32 := Tryd.sizeOf101
  v32 := Tryd.zeroValue101
  t35 := Tryd.underlying103
  a35 := Tryd.isAgg103
  z35 := Tryd.sizeOf103
  v35 := Tryd.zeroValue103
  t36 := Tryd.underlying104
  a36 := Tryd.isAgg104
  z36 := Tryd.sizeOf104
  v36 := Tryd.zeroValue104
  t41 := Tryd.underlying109
  a41 := Tryd.isAgg109
  z41 := Tryd.sizeOf109
  v41 := Tryd.zeroValue109
  t44 := Tryd.underlying112
  a44 := Tryd.isAgg112
  z44 := Tryd.sizeOf112
  v44 := Tryd.zeroValue112
  t46 := Tryd.underlying114
  a46 := Tryd.isAgg114
  z46 := Tryd.sizeOf114
  v46 := Tryd.zeroValue114
  t53 := Tryd.underlying115
  a53 := Tryd.isAgg115
  z53 := Tryd.sizeOf115
  v53 := Tryd.zeroValue115
  t57 := Tryd.underlying119
  a57 := Tryd.isAgg119
  z57 := Tryd.sizeOf119
  v57 := Tryd.zeroValue119
  t63 := Tryd.underlying125
  a63 := Tryd.isAgg125
  z63 := Tryd.sizeOf125
  v63 := Tryd.zeroValue125
  t64 := Tryd.underlying96
  a64 := Tryd.isAgg96
  z64 := Tryd.sizeOf96
  v64 := Tryd.zeroValue96
end Go.Proofs.YtdhlbhkpleoicaaDoor.Exp
