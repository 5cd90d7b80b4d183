/-
  NARROWER THAN 'FOR EVERY INPUT', by the rows' own cells (each row's printed sentence says how): AllocAgain: laid · AllocSizes: laid · AllocFar: laid · AllocClasses: laid · AllocLocal: laid · AllocNews: laid · AllocTouches: laid · AllocCalls: laid · AllocMoves: laid · AllocPlaces: laid · AllocBinds: laid · AllocReleases: laid.
  DERIVED. THE GIVEN ROWS OF THIS SEAT. 12 by the template 'for every input the law returns true; each argument reads behind the call as it read before'; 0 by the template 'total and deterministic' (their statements: YtenkdmloolbdaaaGreatDoorTotals.lean).
  GIVEN WITH THE SEED: the statements are not yours to turn. If you find one false, say at which input.
  Laid BY PROGRAM, IN A SANDBOX (cutbox-rows.mjs): the forced cells as the released guide's own fill.sh prints them over the translation d21a2c353791ceff… (all of the seat's roots in one cut). By AI agents, Wed Nov 11 2026. No macro, syntax, notation, axiom, sorry.
-/
import Derived.Test.YtenkdmloolbdaaaGreatDoorChecked
import GoSem.Claim
import GoSem.ClaimJoined
import GoSem.ClaimMapViews
import Derived.JoinedTies
import Derived.KernelRfl
namespace Go.Proofs.YtenkdmloolbdaaaGreatDoor
/- THE CELL 'sum', in the pinned program and in every row, IS THE sha256 OF THE DUMP (.gsa) THAT YtenkdmloolbdaaaGreatDoorProg.lean LOADS. Nothing in Lean hashes anything: it is a label: what it is worth is what the hold of that sum in a sandbox is worth. -/
noncomputable def Tryz.pinned : Pinned := { name := "ytenkdmloolbdaaagreatdoor", sum := "d21a2c353791ceff8de6b788f35234f828d0de8afb8fefedd782909b7a59328c", checked := Tryz.checked }
namespace Rows
def none {H : Type} : Left H := { results := [], args := [] }

/- WHAT THE LISTED PACKAGE-LEVEL VARIABLES READ AS WHEN THE CALL BEGINS. Each datum BY PROGRAM (the guide's laid-datum.mjs) off the statement by which the dump's own 'gosem.cut.vars' lays the variable. In a bare row this is a premise. The card (YtenkdmloolbdaaaGreatDoorCards.lean) ties it to the program's text. -/
def laid_messuage_class_rows {H : Type} : DataW H := .agg [.agg [.lit (.int .i64 8), .lit (.int .i64 0)], .agg [.lit (.int .i64 16), .lit (.int .i64 0)], .agg [.lit (.int .i64 32), .lit (.int .i64 1)], .agg [.lit (.int .i64 64), .lit (.int .i64 2)]]

/-- 'messuagelaw19.AllocAgain': WHATEVER THE INPUT: true; the input reads as it did. -/
def allocAgainSpec : ChangeSpec := { name := "allocAgain", fn := fun _ => fun
  | [d1, d2, d3] => { results := [.lit (.bool true)], args := [d1, d2, d3] }
  | _ => none }
def allocAgainRow : OpenClaim := { program := "ytenkdmloolbdaaagreatdoor", sum := "d21a2c353791ceff8de6b788f35234f828d0de8afb8fefedd782909b7a59328c", func := "messuage/messuagelaw19.AllocAgain", spec := "allocAgain", inPlace := ["slices.overlaps[messuage/space.run]"], unfollowed := true, recurses := true, named := ["messuage/class.rows"], apart := false, laid := [("messuage/class.rows", laid_messuage_class_rows)] }
def AllocAgainSaid : Prop := allocAgainRow.holds Tryz.pinned (OpenSpec.ofChange allocAgainSpec)

/-- ITS FALSE NEIGHBOUR: 'it returns false'. Refute it at one input. -/
def allocAgainWrong : ChangeSpec := { name := "allocAgain", fn := fun _ => fun
  | [d1, d2, d3] => { results := [.lit (.bool false)], args := [d1, d2, d3] }
  | _ => none }
def AllocAgainWrongFalsely : Prop := allocAgainRow.holds Tryz.pinned (OpenSpec.ofChange allocAgainWrong)

/-- 'messuagelaw19.AllocSizes': WHATEVER THE INPUT: true; the input reads as it did. -/
def allocSizesSpec : ChangeSpec := { name := "allocSizes", fn := fun _ => fun
  | [d1, d2] => { results := [.lit (.bool true)], args := [d1, d2] }
  | _ => none }
def allocSizesRow : OpenClaim := { program := "ytenkdmloolbdaaagreatdoor", sum := "d21a2c353791ceff8de6b788f35234f828d0de8afb8fefedd782909b7a59328c", func := "messuage/messuagelaw19.AllocSizes", spec := "allocSizes", inPlace := ["slices.overlaps[messuage/space.run]"], unfollowed := true, recurses := true, named := ["messuage/class.rows"], apart := false, laid := [("messuage/class.rows", laid_messuage_class_rows)] }
def AllocSizesSaid : Prop := allocSizesRow.holds Tryz.pinned (OpenSpec.ofChange allocSizesSpec)

/-- ITS FALSE NEIGHBOUR: 'it returns false'. Refute it at one input. -/
def allocSizesWrong : ChangeSpec := { name := "allocSizes", fn := fun _ => fun
  | [d1, d2] => { results := [.lit (.bool false)], args := [d1, d2] }
  | _ => none }
def AllocSizesWrongFalsely : Prop := allocSizesRow.holds Tryz.pinned (OpenSpec.ofChange allocSizesWrong)

/-- 'messuagelaw19.AllocFar': WHATEVER THE INPUT: true; the input reads as it did. -/
def allocFarSpec : ChangeSpec := { name := "allocFar", fn := fun _ => fun
  | [d1, d2] => { results := [.lit (.bool true)], args := [d1, d2] }
  | _ => none }
def allocFarRow : OpenClaim := { program := "ytenkdmloolbdaaagreatdoor", sum := "d21a2c353791ceff8de6b788f35234f828d0de8afb8fefedd782909b7a59328c", func := "messuage/messuagelaw19.AllocFar", spec := "allocFar", inPlace := ["slices.overlaps[messuage/space.run]"], unfollowed := true, recurses := true, named := ["messuage/class.rows"], apart := false, laid := [("messuage/class.rows", laid_messuage_class_rows)] }
def AllocFarSaid : Prop := allocFarRow.holds Tryz.pinned (OpenSpec.ofChange allocFarSpec)

/-- ITS FALSE NEIGHBOUR: 'it returns false'. Refute it at one input. -/
def allocFarWrong : ChangeSpec := { name := "allocFar", fn := fun _ => fun
  | [d1, d2] => { results := [.lit (.bool false)], args := [d1, d2] }
  | _ => none }
def AllocFarWrongFalsely : Prop := allocFarRow.holds Tryz.pinned (OpenSpec.ofChange allocFarWrong)

/-- 'messuagelaw19.AllocClasses': WHATEVER THE INPUT: true; the input reads as it did. -/
def allocClassesSpec : ChangeSpec := { name := "allocClasses", fn := fun _ => fun
  | [d1, d2] => { results := [.lit (.bool true)], args := [d1, d2] }
  | _ => none }
def allocClassesRow : OpenClaim := { program := "ytenkdmloolbdaaagreatdoor", sum := "d21a2c353791ceff8de6b788f35234f828d0de8afb8fefedd782909b7a59328c", func := "messuage/messuagelaw19.AllocClasses", spec := "allocClasses", inPlace := ["slices.overlaps[messuage/space.run]"], unfollowed := true, recurses := true, named := ["messuage/class.rows"], apart := false, laid := [("messuage/class.rows", laid_messuage_class_rows)] }
def AllocClassesSaid : Prop := allocClassesRow.holds Tryz.pinned (OpenSpec.ofChange allocClassesSpec)

/-- ITS FALSE NEIGHBOUR: 'it returns false'. Refute it at one input. -/
def allocClassesWrong : ChangeSpec := { name := "allocClasses", fn := fun _ => fun
  | [d1, d2] => { results := [.lit (.bool false)], args := [d1, d2] }
  | _ => none }
def AllocClassesWrongFalsely : Prop := allocClassesRow.holds Tryz.pinned (OpenSpec.ofChange allocClassesWrong)

/-- 'messuagelaw19.AllocLocal': WHATEVER THE INPUT: true; the input reads as it did. -/
def allocLocalSpec : ChangeSpec := { name := "allocLocal", fn := fun _ => fun
  | [d1, d2, d3] => { results := [.lit (.bool true)], args := [d1, d2, d3] }
  | _ => none }
def allocLocalRow : OpenClaim := { program := "ytenkdmloolbdaaagreatdoor", sum := "d21a2c353791ceff8de6b788f35234f828d0de8afb8fefedd782909b7a59328c", func := "messuage/messuagelaw19.AllocLocal", spec := "allocLocal", inPlace := ["slices.overlaps[messuage/space.run]"], unfollowed := true, recurses := true, named := ["messuage/class.rows"], apart := false, laid := [("messuage/class.rows", laid_messuage_class_rows)] }
def AllocLocalSaid : Prop := allocLocalRow.holds Tryz.pinned (OpenSpec.ofChange allocLocalSpec)

/-- ITS FALSE NEIGHBOUR: 'it returns false'. Refute it at one input. -/
def allocLocalWrong : ChangeSpec := { name := "allocLocal", fn := fun _ => fun
  | [d1, d2, d3] => { results := [.lit (.bool false)], args := [d1, d2, d3] }
  | _ => none }
def AllocLocalWrongFalsely : Prop := allocLocalRow.holds Tryz.pinned (OpenSpec.ofChange allocLocalWrong)

/-- 'messuagelaw19.AllocNews': WHATEVER THE INPUT: true; the input reads as it did. -/
def allocNewsSpec : ChangeSpec := { name := "allocNews", fn := fun _ => fun
  | [d1, d2] => { results := [.lit (.bool true)], args := [d1, d2] }
  | _ => none }
def allocNewsRow : OpenClaim := { program := "ytenkdmloolbdaaagreatdoor", sum := "d21a2c353791ceff8de6b788f35234f828d0de8afb8fefedd782909b7a59328c", func := "messuage/messuagelaw19.AllocNews", spec := "allocNews", inPlace := ["slices.overlaps[messuage/space.run]"], unfollowed := true, recurses := true, named := ["messuage/class.rows"], apart := false, laid := [("messuage/class.rows", laid_messuage_class_rows)] }
def AllocNewsSaid : Prop := allocNewsRow.holds Tryz.pinned (OpenSpec.ofChange allocNewsSpec)

/-- ITS FALSE NEIGHBOUR: 'it returns false'. Refute it at one input. -/
def allocNewsWrong : ChangeSpec := { name := "allocNews", fn := fun _ => fun
  | [d1, d2] => { results := [.lit (.bool false)], args := [d1, d2] }
  | _ => none }
def AllocNewsWrongFalsely : Prop := allocNewsRow.holds Tryz.pinned (OpenSpec.ofChange allocNewsWrong)

/-- 'messuagelaw19.AllocTouches': WHATEVER THE INPUT: true; the input reads as it did. -/
def allocTouchesSpec : ChangeSpec := { name := "allocTouches", fn := fun _ => fun
  | [d1, d2, d3] => { results := [.lit (.bool true)], args := [d1, d2, d3] }
  | _ => none }
def allocTouchesRow : OpenClaim := { program := "ytenkdmloolbdaaagreatdoor", sum := "d21a2c353791ceff8de6b788f35234f828d0de8afb8fefedd782909b7a59328c", func := "messuage/messuagelaw19.AllocTouches", spec := "allocTouches", inPlace := ["slices.overlaps[messuage/space.run]"], unfollowed := true, recurses := true, named := ["messuage/class.rows"], apart := false, laid := [("messuage/class.rows", laid_messuage_class_rows)] }
def AllocTouchesSaid : Prop := allocTouchesRow.holds Tryz.pinned (OpenSpec.ofChange allocTouchesSpec)

/-- ITS FALSE NEIGHBOUR: 'it returns false'. Refute it at one input. -/
def allocTouchesWrong : ChangeSpec := { name := "allocTouches", fn := fun _ => fun
  | [d1, d2, d3] => { results := [.lit (.bool false)], args := [d1, d2, d3] }
  | _ => none }
def AllocTouchesWrongFalsely : Prop := allocTouchesRow.holds Tryz.pinned (OpenSpec.ofChange allocTouchesWrong)

/-- 'messuagelaw19.AllocCalls': WHATEVER THE INPUT: true; the input reads as it did. -/
def allocCallsSpec : ChangeSpec := { name := "allocCalls", fn := fun _ => fun
  | [d1, d2, d3] => { results := [.lit (.bool true)], args := [d1, d2, d3] }
  | _ => none }
def allocCallsRow : OpenClaim := { program := "ytenkdmloolbdaaagreatdoor", sum := "d21a2c353791ceff8de6b788f35234f828d0de8afb8fefedd782909b7a59328c", func := "messuage/messuagelaw19.AllocCalls", spec := "allocCalls", inPlace := ["slices.overlaps[messuage/space.run]"], unfollowed := true, recurses := true, named := ["messuage/class.rows"], apart := false, laid := [("messuage/class.rows", laid_messuage_class_rows)] }
def AllocCallsSaid : Prop := allocCallsRow.holds Tryz.pinned (OpenSpec.ofChange allocCallsSpec)

/-- ITS FALSE NEIGHBOUR: 'it returns false'. Refute it at one input. -/
def allocCallsWrong : ChangeSpec := { name := "allocCalls", fn := fun _ => fun
  | [d1, d2, d3] => { results := [.lit (.bool false)], args := [d1, d2, d3] }
  | _ => none }
def AllocCallsWrongFalsely : Prop := allocCallsRow.holds Tryz.pinned (OpenSpec.ofChange allocCallsWrong)

/-- 'messuagelaw19.AllocMoves': WHATEVER THE INPUT: true; the input reads as it did. -/
def allocMovesSpec : ChangeSpec := { name := "allocMoves", fn := fun _ => fun
  | [d1, d2, d3] => { results := [.lit (.bool true)], args := [d1, d2, d3] }
  | _ => none }
def allocMovesRow : OpenClaim := { program := "ytenkdmloolbdaaagreatdoor", sum := "d21a2c353791ceff8de6b788f35234f828d0de8afb8fefedd782909b7a59328c", func := "messuage/messuagelaw19.AllocMoves", spec := "allocMoves", inPlace := ["slices.overlaps[messuage/space.run]"], unfollowed := true, recurses := true, named := ["messuage/class.rows"], apart := false, laid := [("messuage/class.rows", laid_messuage_class_rows)] }
def AllocMovesSaid : Prop := allocMovesRow.holds Tryz.pinned (OpenSpec.ofChange allocMovesSpec)

/-- ITS FALSE NEIGHBOUR: 'it returns false'. Refute it at one input. -/
def allocMovesWrong : ChangeSpec := { name := "allocMoves", fn := fun _ => fun
  | [d1, d2, d3] => { results := [.lit (.bool false)], args := [d1, d2, d3] }
  | _ => none }
def AllocMovesWrongFalsely : Prop := allocMovesRow.holds Tryz.pinned (OpenSpec.ofChange allocMovesWrong)

/-- 'messuagelaw19.AllocPlaces': WHATEVER THE INPUT: true; the input reads as it did. -/
def allocPlacesSpec : ChangeSpec := { name := "allocPlaces", fn := fun _ => fun
  | [d1, d2, d3] => { results := [.lit (.bool true)], args := [d1, d2, d3] }
  | _ => none }
def allocPlacesRow : OpenClaim := { program := "ytenkdmloolbdaaagreatdoor", sum := "d21a2c353791ceff8de6b788f35234f828d0de8afb8fefedd782909b7a59328c", func := "messuage/messuagelaw19.AllocPlaces", spec := "allocPlaces", inPlace := ["slices.overlaps[messuage/space.run]"], unfollowed := true, recurses := true, named := ["messuage/class.rows"], apart := false, laid := [("messuage/class.rows", laid_messuage_class_rows)] }
def AllocPlacesSaid : Prop := allocPlacesRow.holds Tryz.pinned (OpenSpec.ofChange allocPlacesSpec)

/-- ITS FALSE NEIGHBOUR: 'it returns false'. Refute it at one input. -/
def allocPlacesWrong : ChangeSpec := { name := "allocPlaces", fn := fun _ => fun
  | [d1, d2, d3] => { results := [.lit (.bool false)], args := [d1, d2, d3] }
  | _ => none }
def AllocPlacesWrongFalsely : Prop := allocPlacesRow.holds Tryz.pinned (OpenSpec.ofChange allocPlacesWrong)

/-- 'messuagelaw19.AllocBinds': WHATEVER THE INPUT: true; the input reads as it did. -/
def allocBindsSpec : ChangeSpec := { name := "allocBinds", fn := fun _ => fun
  | [d1, d2, d3] => { results := [.lit (.bool true)], args := [d1, d2, d3] }
  | _ => none }
def allocBindsRow : OpenClaim := { program := "ytenkdmloolbdaaagreatdoor", sum := "d21a2c353791ceff8de6b788f35234f828d0de8afb8fefedd782909b7a59328c", func := "messuage/messuagelaw19.AllocBinds", spec := "allocBinds", inPlace := ["slices.overlaps[messuage/space.run]"], unfollowed := true, recurses := true, named := ["messuage/class.rows"], apart := false, laid := [("messuage/class.rows", laid_messuage_class_rows)] }
def AllocBindsSaid : Prop := allocBindsRow.holds Tryz.pinned (OpenSpec.ofChange allocBindsSpec)

/-- ITS FALSE NEIGHBOUR: 'it returns false'. Refute it at one input. -/
def allocBindsWrong : ChangeSpec := { name := "allocBinds", fn := fun _ => fun
  | [d1, d2, d3] => { results := [.lit (.bool false)], args := [d1, d2, d3] }
  | _ => none }
def AllocBindsWrongFalsely : Prop := allocBindsRow.holds Tryz.pinned (OpenSpec.ofChange allocBindsWrong)

/-- 'messuagelaw19.AllocReleases': WHATEVER THE INPUT: true; the input reads as it did. -/
def allocReleasesSpec : ChangeSpec := { name := "allocReleases", fn := fun _ => fun
  | [d1, d2] => { results := [.lit (.bool true)], args := [d1, d2] }
  | _ => none }
def allocReleasesRow : OpenClaim := { program := "ytenkdmloolbdaaagreatdoor", sum := "d21a2c353791ceff8de6b788f35234f828d0de8afb8fefedd782909b7a59328c", func := "messuage/messuagelaw19.AllocReleases", spec := "allocReleases", inPlace := ["slices.overlaps[messuage/space.run]"], unfollowed := true, recurses := true, named := ["messuage/class.rows"], apart := false, laid := [("messuage/class.rows", laid_messuage_class_rows)] }
def AllocReleasesSaid : Prop := allocReleasesRow.holds Tryz.pinned (OpenSpec.ofChange allocReleasesSpec)

/-- ITS FALSE NEIGHBOUR: 'it returns false'. Refute it at one input. -/
def allocReleasesWrong : ChangeSpec := { name := "allocReleases", fn := fun _ => fun
  | [d1, d2] => { results := [.lit (.bool false)], args := [d1, d2] }
  | _ => none }
def AllocReleasesWrongFalsely : Prop := allocReleasesRow.holds Tryz.pinned (OpenSpec.ofChange allocReleasesWrong)

/- THE SECOND FORM. 'bulk': how many values and letters a reading holds, each counted each time it is reached (what is shared counts as often as it is met; a slice's spare places count too). A statement '..UptoSaid' is the law's where the arguments, and the package variables that the reading takes, are together of bulk at most 1048576: NARROWER than '..Said'. Prove '..Said' where nothing that the law and all that it calls make is longer than what came in: it says more and counts as full. Else prove '..UptoSaid'. A law counts once. -/
mutual
def uptoBulk {H : Type} : DataW H → Nat
  | .lit (.string bytes) => bytes.length + 1
  | .lit _ => 1
  | .nil => 1
  | .ptr d => uptoBulk d + 1
  | .slice elems spare => uptoBulkAll elems + uptoBulkAll spare + 1
  | .agg parts => uptoBulkAll parts + 1
  | .iface _ d => uptoBulk d + 1
  | .map entries => uptoBulkEntries entries + 1
  | .held _ => 1
def uptoBulkAll {H : Type} : List (DataW H) → Nat
  | [] => 0
  | d :: r => uptoBulk d + uptoBulkAll r
def uptoBulkEntries {H : Type} : List (Lit × DataW H) → Nat
  | [] => 0
  | x :: r => uptoBulkEntry x + uptoBulkEntries r
def uptoBulkEntry {H : Type} : Lit × DataW H → Nat
  | (.string bytes, d) => bytes.length + uptoBulk d + 1
  | (_, d) => uptoBulk d + 1
 end
def uptoSmall : (H : Type) → List (DataW H) → Bool := fun _ ds => decide (uptoBulkAll ds ≤ 1048576)
def OpenSpec.upto (s : _root_.Go.ChangeSpec) : _root_.Go.OpenSpec := { _root_.Go.OpenSpec.ofChange s with cond := some uptoSmall }

/-- 'messuagelaw19.AllocAgain', WHERE WHAT IT READS IS OF BULK AT MOST 1048576: true; the input reads as it did. -/
def allocAgainUptoRow : OpenClaim := { program := "ytenkdmloolbdaaagreatdoor", sum := "d21a2c353791ceff8de6b788f35234f828d0de8afb8fefedd782909b7a59328c", func := "messuage/messuagelaw19.AllocAgain", spec := "allocAgain", inPlace := ["slices.overlaps[messuage/space.run]"], unfollowed := true, recurses := true, named := ["messuage/class.rows"], apart := false, laid := [("messuage/class.rows", laid_messuage_class_rows)], narrowed := true }
def AllocAgainUptoSaid : Prop := allocAgainUptoRow.holds Tryz.pinned (OpenSpec.upto allocAgainSpec)

/-- 'messuagelaw19.AllocSizes', WHERE WHAT IT READS IS OF BULK AT MOST 1048576: true; the input reads as it did. -/
def allocSizesUptoRow : OpenClaim := { program := "ytenkdmloolbdaaagreatdoor", sum := "d21a2c353791ceff8de6b788f35234f828d0de8afb8fefedd782909b7a59328c", func := "messuage/messuagelaw19.AllocSizes", spec := "allocSizes", inPlace := ["slices.overlaps[messuage/space.run]"], unfollowed := true, recurses := true, named := ["messuage/class.rows"], apart := false, laid := [("messuage/class.rows", laid_messuage_class_rows)], narrowed := true }
def AllocSizesUptoSaid : Prop := allocSizesUptoRow.holds Tryz.pinned (OpenSpec.upto allocSizesSpec)

/-- 'messuagelaw19.AllocFar', WHERE WHAT IT READS IS OF BULK AT MOST 1048576: true; the input reads as it did. -/
def allocFarUptoRow : OpenClaim := { program := "ytenkdmloolbdaaagreatdoor", sum := "d21a2c353791ceff8de6b788f35234f828d0de8afb8fefedd782909b7a59328c", func := "messuage/messuagelaw19.AllocFar", spec := "allocFar", inPlace := ["slices.overlaps[messuage/space.run]"], unfollowed := true, recurses := true, named := ["messuage/class.rows"], apart := false, laid := [("messuage/class.rows", laid_messuage_class_rows)], narrowed := true }
def AllocFarUptoSaid : Prop := allocFarUptoRow.holds Tryz.pinned (OpenSpec.upto allocFarSpec)

/-- 'messuagelaw19.AllocClasses', WHERE WHAT IT READS IS OF BULK AT MOST 1048576: true; the input reads as it did. -/
def allocClassesUptoRow : OpenClaim := { program := "ytenkdmloolbdaaagreatdoor", sum := "d21a2c353791ceff8de6b788f35234f828d0de8afb8fefedd782909b7a59328c", func := "messuage/messuagelaw19.AllocClasses", spec := "allocClasses", inPlace := ["slices.overlaps[messuage/space.run]"], unfollowed := true, recurses := true, named := ["messuage/class.rows"], apart := false, laid := [("messuage/class.rows", laid_messuage_class_rows)], narrowed := true }
def AllocClassesUptoSaid : Prop := allocClassesUptoRow.holds Tryz.pinned (OpenSpec.upto allocClassesSpec)

/-- 'messuagelaw19.AllocLocal', WHERE WHAT IT READS IS OF BULK AT MOST 1048576: true; the input reads as it did. -/
def allocLocalUptoRow : OpenClaim := { program := "ytenkdmloolbdaaagreatdoor", sum := "d21a2c353791ceff8de6b788f35234f828d0de8afb8fefedd782909b7a59328c", func := "messuage/messuagelaw19.AllocLocal", spec := "allocLocal", inPlace := ["slices.overlaps[messuage/space.run]"], unfollowed := true, recurses := true, named := ["messuage/class.rows"], apart := false, laid := [("messuage/class.rows", laid_messuage_class_rows)], narrowed := true }
def AllocLocalUptoSaid : Prop := allocLocalUptoRow.holds Tryz.pinned (OpenSpec.upto allocLocalSpec)

/-- 'messuagelaw19.AllocNews', WHERE WHAT IT READS IS OF BULK AT MOST 1048576: true; the input reads as it did. -/
def allocNewsUptoRow : OpenClaim := { program := "ytenkdmloolbdaaagreatdoor", sum := "d21a2c353791ceff8de6b788f35234f828d0de8afb8fefedd782909b7a59328c", func := "messuage/messuagelaw19.AllocNews", spec := "allocNews", inPlace := ["slices.overlaps[messuage/space.run]"], unfollowed := true, recurses := true, named := ["messuage/class.rows"], apart := false, laid := [("messuage/class.rows", laid_messuage_class_rows)], narrowed := true }
def AllocNewsUptoSaid : Prop := allocNewsUptoRow.holds Tryz.pinned (OpenSpec.upto allocNewsSpec)

/-- 'messuagelaw19.AllocTouches', WHERE WHAT IT READS IS OF BULK AT MOST 1048576: true; the input reads as it did. -/
def allocTouchesUptoRow : OpenClaim := { program := "ytenkdmloolbdaaagreatdoor", sum := "d21a2c353791ceff8de6b788f35234f828d0de8afb8fefedd782909b7a59328c", func := "messuage/messuagelaw19.AllocTouches", spec := "allocTouches", inPlace := ["slices.overlaps[messuage/space.run]"], unfollowed := true, recurses := true, named := ["messuage/class.rows"], apart := false, laid := [("messuage/class.rows", laid_messuage_class_rows)], narrowed := true }
def AllocTouchesUptoSaid : Prop := allocTouchesUptoRow.holds Tryz.pinned (OpenSpec.upto allocTouchesSpec)

/-- 'messuagelaw19.AllocCalls', WHERE WHAT IT READS IS OF BULK AT MOST 1048576: true; the input reads as it did. -/
def allocCallsUptoRow : OpenClaim := { program := "ytenkdmloolbdaaagreatdoor", sum := "d21a2c353791ceff8de6b788f35234f828d0de8afb8fefedd782909b7a59328c", func := "messuage/messuagelaw19.AllocCalls", spec := "allocCalls", inPlace := ["slices.overlaps[messuage/space.run]"], unfollowed := true, recurses := true, named := ["messuage/class.rows"], apart := false, laid := [("messuage/class.rows", laid_messuage_class_rows)], narrowed := true }
def AllocCallsUptoSaid : Prop := allocCallsUptoRow.holds Tryz.pinned (OpenSpec.upto allocCallsSpec)

/-- 'messuagelaw19.AllocMoves', WHERE WHAT IT READS IS OF BULK AT MOST 1048576: true; the input reads as it did. -/
def allocMovesUptoRow : OpenClaim := { program := "ytenkdmloolbdaaagreatdoor", sum := "d21a2c353791ceff8de6b788f35234f828d0de8afb8fefedd782909b7a59328c", func := "messuage/messuagelaw19.AllocMoves", spec := "allocMoves", inPlace := ["slices.overlaps[messuage/space.run]"], unfollowed := true, recurses := true, named := ["messuage/class.rows"], apart := false, laid := [("messuage/class.rows", laid_messuage_class_rows)], narrowed := true }
def AllocMovesUptoSaid : Prop := allocMovesUptoRow.holds Tryz.pinned (OpenSpec.upto allocMovesSpec)

/-- 'messuagelaw19.AllocPlaces', WHERE WHAT IT READS IS OF BULK AT MOST 1048576: true; the input reads as it did. -/
def allocPlacesUptoRow : OpenClaim := { program := "ytenkdmloolbdaaagreatdoor", sum := "d21a2c353791ceff8de6b788f35234f828d0de8afb8fefedd782909b7a59328c", func := "messuage/messuagelaw19.AllocPlaces", spec := "allocPlaces", inPlace := ["slices.overlaps[messuage/space.run]"], unfollowed := true, recurses := true, named := ["messuage/class.rows"], apart := false, laid := [("messuage/class.rows", laid_messuage_class_rows)], narrowed := true }
def AllocPlacesUptoSaid : Prop := allocPlacesUptoRow.holds Tryz.pinned (OpenSpec.upto allocPlacesSpec)

/-- 'messuagelaw19.AllocBinds', WHERE WHAT IT READS IS OF BULK AT MOST 1048576: true; the input reads as it did. -/
def allocBindsUptoRow : OpenClaim := { program := "ytenkdmloolbdaaagreatdoor", sum := "d21a2c353791ceff8de6b788f35234f828d0de8afb8fefedd782909b7a59328c", func := "messuage/messuagelaw19.AllocBinds", spec := "allocBinds", inPlace := ["slices.overlaps[messuage/space.run]"], unfollowed := true, recurses := true, named := ["messuage/class.rows"], apart := false, laid := [("messuage/class.rows", laid_messuage_class_rows)], narrowed := true }
def AllocBindsUptoSaid : Prop := allocBindsUptoRow.holds Tryz.pinned (OpenSpec.upto allocBindsSpec)

/-- 'messuagelaw19.AllocReleases', WHERE WHAT IT READS IS OF BULK AT MOST 1048576: true; the input reads as it did. -/
def allocReleasesUptoRow : OpenClaim := { program := "ytenkdmloolbdaaagreatdoor", sum := "d21a2c353791ceff8de6b788f35234f828d0de8afb8fefedd782909b7a59328c", func := "messuage/messuagelaw19.AllocReleases", spec := "allocReleases", inPlace := ["slices.overlaps[messuage/space.run]"], unfollowed := true, recurses := true, named := ["messuage/class.rows"], apart := false, laid := [("messuage/class.rows", laid_messuage_class_rows)], narrowed := true }
def AllocReleasesUptoSaid : Prop := allocReleasesUptoRow.holds Tryz.pinned (OpenSpec.upto allocReleasesSpec)

end Rows
end Go.Proofs.YtenkdmloolbdaaaGreatDoor
