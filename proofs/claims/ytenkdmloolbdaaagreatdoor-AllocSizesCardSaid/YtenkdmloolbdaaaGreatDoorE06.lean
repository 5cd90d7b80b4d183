import Derived.Shelf.Sort.Plain
import Derived.Test.YtenkdmloolbdaaaGreatDoorProg
set_option linter.unusedVariables false
set_option linter.unusedSimpArgs false
set_option maxHeartbeats 8000000
set_option maxRecDepth 100000
section
namespace Go.Proofs
open Go.Shelf
def Tryz.lays189_ren : Go.Shelf.Ren := ⟨fun | 189 => 92 | 125 => 147 | 257 => 146 | 128 => 193 | 129 => 194 | 294 => 184 | 295 => 185 | 296 => 186 | 297 => 187 | 298 => 188 | 299 => 189 | 216 => 190 | 300 => 191 | 301 => 192 | 328 => 216 | 329 => 217 | 330 => 218 | 331 => 219 | 332 => 220 | 215 => 221 | 343 => 230 | n => n, fun | 28 => 34 | 3 => 3 | 46 => 232 | 0 => 0 | 51 => 281 | 53 => 26 | 4 => 4 | 183 => 275 | 182 => 274 | 131 => 100 | 5 => 5 | 9 => 9 | 218 => 302 | 222 => 306 | 228 => 311 | 229 => 312 | n => n, fun | n => n⟩
theorem Tryz.lays189 : Go.Proofs.Lays.n189 Tryz.prog Tryz.lays189_ren := {
 mixed := by kernel_rfl
 f125 := Tryz.func147.trans (congrArg some (by kernel_rfl))
 f128 := Tryz.func193.trans (congrArg some (by kernel_rfl))
 f129 := Tryz.func194.trans (congrArg some (by kernel_rfl))
 f189 := Tryz.func92.trans (congrArg some (by kernel_rfl))
 f215 := Tryz.func221.trans (congrArg some (by kernel_rfl))
 f216 := Tryz.func190.trans (congrArg some (by kernel_rfl))
 f257 := Tryz.func146.trans (congrArg some (by kernel_rfl))
 f294 := Tryz.func184.trans (congrArg some (by kernel_rfl))
 f295 := Tryz.func185.trans (congrArg some (by kernel_rfl))
 f296 := Tryz.func186.trans (congrArg some (by kernel_rfl))
 f297 := Tryz.func187.trans (congrArg some (by kernel_rfl))
 f298 := Tryz.func188.trans (congrArg some (by kernel_rfl))
 f299 := Tryz.func189.trans (congrArg some (by kernel_rfl))
 f300 := Tryz.func191.trans (congrArg some (by kernel_rfl))
 f301 := Tryz.func192.trans (congrArg some (by kernel_rfl))
 f328 := Tryz.func216.trans (congrArg some (by kernel_rfl))
 f329 := Tryz.func217.trans (congrArg some (by kernel_rfl))
 f330 := Tryz.func218.trans (congrArg some (by kernel_rfl))
 f331 := Tryz.func219.trans (congrArg some (by kernel_rfl))
 f332 := Tryz.func220.trans (congrArg some (by kernel_rfl))
 f343 := Tryz.func230.trans (congrArg some (by kernel_rfl))
 t0 := Tryz.underlying0
 a0 := Tryz.isAgg0
 z0 := Tryz.sizeOf0
 v0 := Tryz.zeroValue0
 t3 := Tryz.underlying3
 a3 := Tryz.isAgg3
 z3 := Tryz.sizeOf3
 v3 := Tryz.zeroValue3
 t4 := Tryz.underlying4
 a4 := Tryz.isAgg4
 z4 := Tryz.sizeOf4
 v4 := Tryz.zeroValue4
 t5 := Tryz.underlying5
 a5 := Tryz.isAgg5
 z5 := Tryz.sizeOf5
 v5 := Tryz.zeroValue5
 t9 := Tryz.underlying9
 a9 := Tryz.isAgg9
 z9 := Tryz.sizeOf9
 v9 := Tryz.zeroValue9
 t28 := Tryz.underlying34
 a28 := Tryz.isAgg34
 z28 := Tryz.sizeOf34
 v28 := Tryz.zeroValue34
 t46 := Tryz.underlying232
 a46 := Tryz.isAgg232
 z46 := Tryz.sizeOf232
 v46 := Tryz.zeroValue232
 t51 := Tryz.underlying281
 a51 := Tryz.isAgg281
 z51 := Tryz.sizeOf281
 v51 := Tryz.zeroValue281
 t53 := Tryz.underlying26
 a53 := Tryz.isAgg26
 z53 := Tryz.sizeOf26
 v53 := Tryz.zeroValue26
 t131 := Tryz.underlying100
 a131 := Tryz.isAgg100
 z131 := Tryz.sizeOf100
 v131 := Tryz.zeroValue100
 t182 := Tryz.underlying274
 a182 := Tryz.isAgg274
 z182 := Tryz.sizeOf274
 v182 := Tryz.zeroValue274
 t183 := Tryz.underlying275
 a183 := Tryz.isAgg275
 z183 := Tryz.sizeOf275
 v183 := Tryz.zeroValue275
 t218 := Tryz.underlying302
 a218 := Tryz.isAgg302
 z218 := Tryz.sizeOf302
 v218 := Tryz.zeroValue302
 t222 := Tryz.underlying306
 a222 := Tryz.isAgg306
 z222 := Tryz.sizeOf306
 v222 := Tryz.zeroValue306
 t228 := Tryz.underlying311
 a228 := Tryz.isAgg311
 z228 := Tryz.sizeOf311
 v228 := Tryz.zeroValue311
 t229 := Tryz.underlying312
 a229 := Tryz.isAgg312
 z229 := Tryz.sizeOf312
 v229 := Tryz.zeroValue312 }
end Go.Proofs
end
