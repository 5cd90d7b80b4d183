import Derived.Shelf.Small.Bits
import Derived.Shelf.SlicesE.IndexFunc
import Derived.Shelf.SlicesE.DeleteFunc
import Derived.Shelf.SlSortCmp.NoneTotal
import Derived.Shelf.SlicesG.Cmp
import Derived.Ground.SlgfProg
import Derived.Ground.SlsfProg
import Derived.Ground.SlgcProg
import Derived.Test.YtenkdmloolbdaaaGreatDoorProg
set_option linter.unusedVariables false
set_option linter.unusedSimpArgs false
set_option maxHeartbeats 8000000
set_option maxRecDepth 100000
section
namespace Go.Proofs
open Go.Shelf
def Tryz.layContains_ren : Go.Shelf.Ren := ⟨fun | 8 => 134 | 6 => 179 | n => n, fun | 22 => 34 | 23 => 3 | 25 => 148 | 4 => 4 | 3 => 3 | 0 => 0 | n => n, fun | n => n⟩
theorem Tryz.layContains : Go.Proofs.SlLaysH.n8 Tryz.prog Tryz.layContains_ren := {
 mixed := by kernel_rfl
 f6 := ⟨Tryz.f179.name, by decide, Tryz.func179.trans (congrArg some (by kernel_rfl))⟩
 f8 := ⟨Tryz.f134.name, by decide, Tryz.func134.trans (congrArg some (by kernel_rfl))⟩
 t0 := Tryz.underlying0
 a0 := Tryz.isAgg0
 z0 := Tryz.sizeOf0
 v0 := Tryz.zeroValue0
 t3 := Tryz.underlying3
 a3 := Tryz.isAgg3
 z3 := Tryz.sizeOf3
 v3 := Tryz.zeroValue3
 t4 := Tryz.underlying4
 a4 := Tryz.isAgg4
 z4 := Tryz.sizeOf4
 v4 := Tryz.zeroValue4
 t22 := Tryz.underlying34
 a22 := Tryz.isAgg34
 z22 := Tryz.sizeOf34
 v22 := Tryz.zeroValue34
 a23 := Tryz.isAgg3
 z23 := Tryz.sizeOf3
 t25 := Tryz.underlying148
 a25 := Tryz.isAgg148
 z25 := Tryz.sizeOf148
 v25 := Tryz.zeroValue148 }
def Tryz.layDelete_ren : Go.Shelf.Ren := ⟨fun | 10 => 200 | 6 => 179 | n => n, fun | 22 => 34 | 23 => 3 | 25 => 148 | 3 => 3 | 4 => 4 | 0 => 0 | n => n, fun | n => n⟩
theorem Tryz.layDelete : Go.Proofs.SlLaysH.n10 Tryz.prog Tryz.layDelete_ren := {
 mixed := by kernel_rfl
 f6 := ⟨Tryz.f179.name, by decide, Tryz.func179.trans (congrArg some (by kernel_rfl))⟩
 f10 := ⟨Tryz.f200.name, by decide, Tryz.func200.trans (congrArg some (by kernel_rfl))⟩
 t0 := Tryz.underlying0
 a0 := Tryz.isAgg0
 z0 := Tryz.sizeOf0
 v0 := Tryz.zeroValue0
 t3 := Tryz.underlying3
 a3 := Tryz.isAgg3
 z3 := Tryz.sizeOf3
 v3 := Tryz.zeroValue3
 t4 := Tryz.underlying4
 a4 := Tryz.isAgg4
 z4 := Tryz.sizeOf4
 v4 := Tryz.zeroValue4
 t22 := Tryz.underlying34
 a22 := Tryz.isAgg34
 z22 := Tryz.sizeOf34
 v22 := Tryz.zeroValue34
 a23 := Tryz.isAgg3
 z23 := Tryz.sizeOf3
 t25 := Tryz.underlying148
 a25 := Tryz.isAgg148
 z25 := Tryz.sizeOf148
 v25 := Tryz.zeroValue148 }
def Tryz.laySort_ren : Go.Shelf.Ren := ⟨fun | 6 => 224 | 15 => 147 | 14 => 231 | 28 => 193 | 29 => 194 | 20 => 233 | 21 => 234 | 22 => 235 | 23 => 236 | 24 => 237 | 25 => 238 | 26 => 239 | 27 => 240 | 46 => 241 | 47 => 217 | 48 => 218 | 49 => 242 | 50 => 243 | 57 => 244 | n => n, fun | 22 => 34 | 24 => 3 | 25 => 288 | 3 => 3 | 39 => 232 | 0 => 0 | 53 => 281 | 55 => 26 | 4 => 4 | 46 => 275 | 45 => 274 | 50 => 100 | 5 => 5 | 9 => 9 | 66 => 302 | 70 => 306 | 76 => 311 | 77 => 312 | n => n, fun | n => n⟩
theorem Tryz.laySort : Go.Proofs.SlLaysF.n6 Tryz.prog Tryz.laySort_ren := {
 mixed := by kernel_rfl
 f6 := ⟨Tryz.f224.name, by decide, Tryz.func224.trans (congrArg some (by kernel_rfl))⟩
 f14 := ⟨Tryz.f231.name, by decide, Tryz.func231.trans (congrArg some (by kernel_rfl))⟩
 f15 := Tryz.func147.trans (congrArg some (by kernel_rfl))
 f20 := ⟨Tryz.f233.name, by decide, Tryz.func233.trans (congrArg some (by kernel_rfl))⟩
 f21 := ⟨Tryz.f234.name, by decide, Tryz.func234.trans (congrArg some (by kernel_rfl))⟩
 f22 := ⟨Tryz.f235.name, by decide, Tryz.func235.trans (congrArg some (by kernel_rfl))⟩
 f23 := ⟨Tryz.f236.name, by decide, Tryz.func236.trans (congrArg some (by kernel_rfl))⟩
 f24 := ⟨Tryz.f237.name, by decide, Tryz.func237.trans (congrArg some (by kernel_rfl))⟩
 f25 := ⟨Tryz.f238.name, by decide, Tryz.func238.trans (congrArg some (by kernel_rfl))⟩
 f26 := ⟨Tryz.f239.name, by decide, Tryz.func239.trans (congrArg some (by kernel_rfl))⟩
 f27 := ⟨Tryz.f240.name, by decide, Tryz.func240.trans (congrArg some (by kernel_rfl))⟩
 f28 := Tryz.func193.trans (congrArg some (by kernel_rfl))
 f29 := Tryz.func194.trans (congrArg some (by kernel_rfl))
 f46 := ⟨Tryz.f241.name, by decide, Tryz.func241.trans (congrArg some (by kernel_rfl))⟩
 f47 := Tryz.func217.trans (congrArg some (by kernel_rfl))
 f48 := Tryz.func218.trans (congrArg some (by kernel_rfl))
 f49 := ⟨Tryz.f242.name, by decide, Tryz.func242.trans (congrArg some (by kernel_rfl))⟩
 f50 := ⟨Tryz.f243.name, by decide, Tryz.func243.trans (congrArg some (by kernel_rfl))⟩
 f57 := ⟨Tryz.f244.name, by decide, Tryz.func244.trans (congrArg some (by kernel_rfl))⟩
 t0 := Tryz.underlying0
 a0 := Tryz.isAgg0
 z0 := Tryz.sizeOf0
 v0 := Tryz.zeroValue0
 t3 := Tryz.underlying3
 a3 := Tryz.isAgg3
 z3 := Tryz.sizeOf3
 v3 := Tryz.zeroValue3
 t4 := Tryz.underlying4
 a4 := Tryz.isAgg4
 z4 := Tryz.sizeOf4
 v4 := Tryz.zeroValue4
 t5 := Tryz.underlying5
 a5 := Tryz.isAgg5
 z5 := Tryz.sizeOf5
 v5 := Tryz.zeroValue5
 t9 := Tryz.underlying9
 a9 := Tryz.isAgg9
 z9 := Tryz.sizeOf9
 v9 := Tryz.zeroValue9
 t22 := Tryz.underlying34
 a22 := Tryz.isAgg34
 z22 := Tryz.sizeOf34
 v22 := Tryz.zeroValue34
 a24 := Tryz.isAgg3
 z24 := Tryz.sizeOf3
 t25 := Tryz.underlying288
 a25 := Tryz.isAgg288
 z25 := Tryz.sizeOf288
 v25 := Tryz.zeroValue288
 t39 := Tryz.underlying232
 a39 := Tryz.isAgg232
 z39 := Tryz.sizeOf232
 v39 := Tryz.zeroValue232
 t45 := Tryz.underlying274
 a45 := Tryz.isAgg274
 z45 := Tryz.sizeOf274
 v45 := Tryz.zeroValue274
 t46 := Tryz.underlying275
 a46 := Tryz.isAgg275
 z46 := Tryz.sizeOf275
 v46 := Tryz.zeroValue275
 t50 := Tryz.underlying100
 a50 := Tryz.isAgg100
 z50 := Tryz.sizeOf100
 v50 := Tryz.zeroValue100
 t53 := Tryz.underlying281
 a53 := Tryz.isAgg281
 z53 := Tryz.sizeOf281
 v53 := Tryz.zeroValue281
 t55 := Tryz.underlying26
 a55 := Tryz.isAgg26
 z55 := Tryz.sizeOf26
 v55 := Tryz.zeroValue26
 t66 := Tryz.underlying302
 a66 := Tryz.isAgg302
 z66 := Tryz.sizeOf302
 v66 := Tryz.zeroValue302
 t70 := Tryz.underlying306
 a70 := Tryz.isAgg306
 z70 := Tryz.sizeOf306
 v70 := Tryz.zeroValue306
 t76 := Tryz.underlying311
 a76 := Tryz.isAgg311
 z76 := Tryz.sizeOf311
 v76 := Tryz.zeroValue311
 t77 := Tryz.underlying312
 a77 := Tryz.isAgg312
 z77 := Tryz.sizeOf312
 v77 := Tryz.zeroValue312 }
def Tryz.layCompare_ren : Go.Shelf.Ren := ⟨fun | 5 => 204 | 7 => 221 | n => n, fun | 22 => 3 | 3 => 3 | 4 => 4 | n => n, fun | n => n⟩
theorem Tryz.layCompare : Go.Proofs.SlLaysC2.n5 Tryz.prog Tryz.layCompare_ren := {
 mixed := by kernel_rfl
 f5 := ⟨Tryz.f204.name, by decide, Tryz.func204.trans (congrArg some (by kernel_rfl))⟩
 f7 := ⟨Tryz.f221.name, by decide, Tryz.func221.trans (congrArg some (by kernel_rfl))⟩
 t3 := Tryz.underlying3
 a3 := Tryz.isAgg3
 z3 := Tryz.sizeOf3
 v3 := Tryz.zeroValue3
 t4 := Tryz.underlying4
 a4 := Tryz.isAgg4
 z4 := Tryz.sizeOf4
 v4 := Tryz.zeroValue4
 t22 := Tryz.underlying3
 a22 := Tryz.isAgg3
 z22 := Tryz.sizeOf3
 v22 := Tryz.zeroValue3 }
end Go.Proofs
end
