/-
  Contracts of the library's functions, laid at this program (the numbers by name).
-/
import Derived.Test.YtenfdhfhfjaipaaDoorProg
import Derived.Shelf.LaysM
import Derived.Shelf.Strings.SplitShaped
import Derived.WalkKit
set_option linter.unusedSimpArgs false
set_option linter.unusedVariables false
set_option linter.unusedVariables false
namespace Go.Proofs.YtenfdhfhfjaipaaDoor
open Go.Shelf Go.Proofs
def Tryd.lays157_ren : Go.Shelf.Ren := ⟨fun | 157 => 43 | 229 => 60 | 199 => 61 | 261 => 79 | 311 => 93 | 312 => 94 | n => n, fun | 9 => 9 | 31 => 95 | 3 => 3 | 5 => 5 | 4 => 4 | 119 => 120 | 0 => 0 | 40 => 122 | 152 => 143 | 21 => 21 | 154 => 145 | 51 => 22 | 141 => 147 | 196 => 172 | 193 => 169 | 198 => 174 | 49 => 23 | 194 => 170 | 201 => 177 | 226 => 196 | 46 => 43 | 227 => 197 | n => n, fun | 0 => 0 | 6 => 1 | n => n⟩
theorem Tryd.lays157 : Go.Proofs.LaysM.n157 Tryd.prog Tryd.lays157_ren := {
  mixed := by kernel_rfl
  f157 := Tryd.func43.trans (congrArg some (by kernel_rfl))
  f199 := Tryd.func61.trans (congrArg some (by kernel_rfl))
  f229 := Tryd.func60.trans (congrArg some (by kernel_rfl))
  f261 := Tryd.func79.trans (congrArg some (by kernel_rfl))
  f311 := Tryd.func93.trans (congrArg some (by kernel_rfl))
  f312 := Tryd.func94.trans (congrArg some (by kernel_rfl))
  t0 := Tryd.underlying0
  a0 := Tryd.isAgg0
  z0 := Tryd.sizeOf0
  v0 := Tryd.zeroValue0
  t3 := Tryd.underlying3
  a3 := Tryd.isAgg3
  z3 := Tryd.sizeOf3
  v3 := Tryd.zeroValue3
  t4 := Tryd.underlying4
  a4 := Tryd.isAgg4
  z4 := Tryd.sizeOf4
  v4 := Tryd.zeroValue4
  t5 := Tryd.underlying5
  a5 := Tryd.isAgg5
  z5 := Tryd.sizeOf5
  v5 := Tryd.zeroValue5
  t9 := Tryd.underlying9
  a9 := Tryd.isAgg9
  z9 := Tryd.sizeOf9
  v9 := Tryd.zeroValue9
  t21 := Tryd.underlying21
  a21 := Tryd.isAgg21
  z21 := Tryd.sizeOf21
  v21 := Tryd.zeroValue21
  t31 := Tryd.underlying95
  a31 := Tryd.isAgg95
  z31 := Tryd.sizeOf95
  v31 := Tryd.zeroValue95
  t40 := Tryd.underlying122
  a40 := Tryd.isAgg122
  z40 := Tryd.sizeOf122
  v40 := Tryd.zeroValue122
  t46 := Tryd.underlying43
  a46 := Tryd.isAgg43
  z46 := Tryd.sizeOf43
  v46 := Tryd.zeroValue43
  t49 := Tryd.underlying23
  a49 := Tryd.isAgg23
  z49 := Tryd.sizeOf23
  v49 := Tryd.zeroValue23
  t51 := Tryd.underlying22
  a51 := Tryd.isAgg22
  z51 := Tryd.sizeOf22
  v51 := Tryd.zeroValue22
  t119 := Tryd.underlying120
  a119 := Tryd.isAgg120
  z119 := Tryd.sizeOf120
  t141 := Tryd.underlying147
  a141 := Tryd.isAgg147
  z141 := Tryd.sizeOf147
  v141 := Tryd.zeroValue147
  t152 := Tryd.underlying143
  a152 := Tryd.isAgg143
  z152 := Tryd.sizeOf143
  v152 := Tryd.zeroValue143
  t154 := Tryd.underlying145
  a154 := Tryd.isAgg145
  z154 := Tryd.sizeOf145
  v154 := Tryd.zeroValue145
  t193 := Tryd.underlying169
  a193 := Tryd.isAgg169
  z193 := Tryd.sizeOf169
  v193 := Tryd.zeroValue169
  t194 := Tryd.underlying170
  a194 := Tryd.isAgg170
  z194 := Tryd.sizeOf170
  v194 := Tryd.zeroValue170
  t196 := Tryd.underlying172
  a196 := Tryd.isAgg172
  z196 := Tryd.sizeOf172
  v196 := Tryd.zeroValue172
  t198 := Tryd.underlying174
  a198 := Tryd.isAgg174
  z198 := Tryd.sizeOf174
  v198 := Tryd.zeroValue174
  t201 := Tryd.underlying177
  a201 := Tryd.isAgg177
  z201 := Tryd.sizeOf177
  v201 := Tryd.zeroValue177
  t226 := Tryd.underlying196
  a226 := Tryd.isAgg196
  z226 := Tryd.sizeOf196
  v226 := Tryd.zeroValue196
  t227 := Tryd.underlying197
  a227 := Tryd.isAgg197
  z227 := Tryd.sizeOf197
  v227 := Tryd.zeroValue197
  g0 := by kernel_rfl
  g6 := by kernel_rfl
  i0 := by kernel_rfl
  i3 := by kernel_rfl
  i4 := by kernel_rfl
  i5 := by kernel_rfl
  i9 := by kernel_rfl
  i21 := by kernel_rfl
  i31 := by kernel_rfl
  i40 := by kernel_rfl
  i46 := by kernel_rfl
  i49 := by kernel_rfl
  i51 := by kernel_rfl
  i141 := by kernel_rfl
  i152 := by kernel_rfl
  i154 := by kernel_rfl
  i193 := by kernel_rfl
  i194 := by kernel_rfl
  i196 := by kernel_rfl
  i198 := by kernel_rfl
  i201 := by kernel_rfl
  i226 := by kernel_rfl
  i227 := by kernel_rfl
  m0 := by kernel_rfl
  m6 := by kernel_rfl }
end Go.Proofs.YtenfdhfhfjaipaaDoor
