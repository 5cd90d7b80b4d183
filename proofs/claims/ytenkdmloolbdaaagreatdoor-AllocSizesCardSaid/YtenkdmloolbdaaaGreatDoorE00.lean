import Derived.Test.YtenkdmloolbdaaaGreatDoorRows
import Derived.Test.YtenkdmloolbdaaaGreatDoorCards
import Derived.JoinedOf
import Derived.SevenTiedAt
set_option linter.unusedVariables false
set_option linter.unusedSimpArgs false
set_option maxHeartbeats 8000000
set_option maxRecDepth 100000
section
namespace Go.Proofs.YtenkdmloolbdaaaGreatDoor.F
theorem laid : laidOutB Tryz.prog = true := by kernel_rfl
theorem rowed : mapsRowed Tryz.prog = true := by kernel_rfl
theorem keys : Tryz.prog.plainKeys = Rows.allocAgainRow.plainKeys := by kernel_rfl
theorem heard : Tryz.prog.stopsHeard = true := by kernel_rfl
theorem enter : Tryz.prog.mayEnter = true := by kernel_rfl
theorem lifts : Tryz.prog.liftsFinal = Rows.allocAgainRow.lifted := by kernel_rfl
theorem make : Tryz.prog.make = some Rows.allocAgainRow.make := by kernel_rfl
theorem looks : false = Tryz.prog.looks [] := by kernel_rfl
theorem main : Tryz.prog.mainIs = some (Rows.allocAgainCard.stood.harness.1, Rows.allocAgainCard.stood.harness.2.toList) := by kernel_rfl
end Go.Proofs.YtenkdmloolbdaaaGreatDoor.F
end
