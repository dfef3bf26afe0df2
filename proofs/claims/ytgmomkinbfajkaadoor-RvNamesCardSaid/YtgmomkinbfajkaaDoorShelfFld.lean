/-
  Contracts of the library's functions, laid at this program (the numbers by name).
-/
import Derived.Test.YtgmomkinbfajkaaDoorProg
import Derived.Shelf.LaysM
import Derived.Shelf.Strings.SplitShaped
import Derived.WalkKit
set_option linter.unusedSimpArgs false
set_option linter.unusedVariables false
set_option linter.unusedVariables false
namespace Go.Proofs.YtgmomkinbfajkaaDoor
open Go.Shelf Go.Proofs
def Tryd.lays157_ren : Go.Shelf.Ren := ⟨fun | 157 => 26 | 229 => 28 | 199 => 29 | 261 => 30 | 311 => 31 | 312 => 32 | n => n, fun | 9 => 9 | 31 => 56 | 3 => 3 | 5 => 5 | 4 => 4 | 119 => 58 | 0 => 0 | 40 => 60 | 152 => 61 | 21 => 21 | 154 => 63 | 51 => 22 | 141 => 65 | 196 => 69 | 193 => 66 | 198 => 71 | 49 => 23 | 194 => 67 | 201 => 74 | 226 => 76 | 46 => 47 | 227 => 77 | n => n, fun | 0 => 0 | 6 => 1 | n => n⟩
theorem Tryd.lays157 : Go.Proofs.LaysM.n157 Tryd.prog Tryd.lays157_ren := {
  mixed := by kernel_rfl
  f157 := Tryd.func26.trans (congrArg some (by kernel_rfl))
  f199 := Tryd.func29.trans (congrArg some (by kernel_rfl))
  f229 := Tryd.func28.trans (congrArg some (by kernel_rfl))
  f261 := Tryd.func30.trans (congrArg some (by kernel_rfl))
  f311 := Tryd.func31.trans (congrArg some (by kernel_rfl))
  f312 := Tryd.func32.trans (congrArg some (by kernel_rfl))
  t0 := Tryd.underlying0
  a0 := Tryd.isAgg0
  z0 := Tryd.sizeOf0
  v0 := Tryd.zeroValue0
  t3 := Tryd.underlying3
  a3 := Tryd.isAgg3
  z3 := Tryd.sizeOf3
  v3 := Tryd.zeroValue3
  t4 := Tryd.underlying4
  a4 := Tryd.isAgg4
  z4 := Tryd.sizeOf4
  v4 := Tryd.zeroValue4
  t5 := Tryd.underlying5
  a5 := Tryd.isAgg5
  z5 := Tryd.sizeOf5
  v5 := Tryd.zeroValue5
  t9 := Tryd.underlying9
  a9 := Tryd.isAgg9
  z9 := Tryd.sizeOf9
  v9 := Tryd.zeroValue9
  t21 := Tryd.underlying21
  a21 := Tryd.isAgg21
  z21 := Tryd.sizeOf21
  v21 := Tryd.zeroValue21
  t31 := Tryd.underlying56
  a31 := Tryd.isAgg56
  z31 := Tryd.sizeOf56
  v31 := Tryd.zeroValue56
  t40 := Tryd.underlying60
  a40 := Tryd.isAgg60
  z40 := Tryd.sizeOf60
  v40 := Tryd.zeroValue60
  t46 := Tryd.underlying47
  a46 := Tryd.isAgg47
  z46 := Tryd.sizeOf47
  v46 := Tryd.zeroValue47
  t49 := Tryd.underlying23
  a49 := Tryd.isAgg23
  z49 := Tryd.sizeOf23
  v49 := Tryd.zeroValue23
  t51 := Tryd.underlying22
  a51 := Tryd.isAgg22
  z51 := Tryd.sizeOf22
  v51 := Tryd.zeroValue22
  t119 := Tryd.underlying58
  a119 := Tryd.isAgg58
  z119 := Tryd.sizeOf58
  t141 := Tryd.underlying65
  a141 := Tryd.isAgg65
  z141 := Tryd.sizeOf65
  v141 := Tryd.zeroValue65
  t152 := Tryd.underlying61
  a152 := Tryd.isAgg61
  z152 := Tryd.sizeOf61
  v152 := Tryd.zeroValue61
  t154 := Tryd.underlying63
  a154 := Tryd.isAgg63
  z154 := Tryd.sizeOf63
  v154 := Tryd.zeroValue63
  t193 := Tryd.underlying66
  a193 := Tryd.isAgg66
  z193 := Tryd.sizeOf66
  v193 := Tryd.zeroValue66
  t194 := Tryd.underlying67
  a194 := Tryd.isAgg67
  z194 := Tryd.sizeOf67
  v194 := Tryd.zeroValue67
  t196 := Tryd.underlying69
  a196 := Tryd.isAgg69
  z196 := Tryd.sizeOf69
  v196 := Tryd.zeroValue69
  t198 := Tryd.underlying71
  a198 := Tryd.isAgg71
  z198 := Tryd.sizeOf71
  v198 := Tryd.zeroValue71
  t201 := Tryd.underlying74
  a201 := Tryd.isAgg74
  z201 := Tryd.sizeOf74
  v201 := Tryd.zeroValue74
  t226 := Tryd.underlying76
  a226 := Tryd.isAgg76
  z226 := Tryd.sizeOf76
  v226 := Tryd.zeroValue76
  t227 := Tryd.underlying77
  a227 := Tryd.isAgg77
  z227 := Tryd.sizeOf77
  v227 := Tryd.zeroValue77
  g0 := by kernel_rfl
  g6 := by kernel_rfl
  i0 := by kernel_rfl
  i3 := by kernel_rfl
  i4 := by kernel_rfl
  i5 := by kernel_rfl
  i9 := by kernel_rfl
  i21 := by kernel_rfl
  i31 := by kernel_rfl
  i40 := by kernel_rfl
  i46 := by kernel_rfl
  i49 := by kernel_rfl
  i51 := by kernel_rfl
  i141 := by kernel_rfl
  i152 := by kernel_rfl
  i154 := by kernel_rfl
  i193 := by kernel_rfl
  i194 := by kernel_rfl
  i196 := by kernel_rfl
  i198 := by kernel_rfl
  i201 := by kernel_rfl
  i226 := by kernel_rfl
  i227 := by kernel_rfl
  m0 := by kernel_rfl
  m6 := by kernel_rfl }
end Go.Proofs.YtgmomkinbfajkaaDoor
