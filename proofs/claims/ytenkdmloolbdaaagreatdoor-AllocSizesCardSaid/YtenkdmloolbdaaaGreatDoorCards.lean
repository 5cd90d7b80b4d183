/-
  DERIVED. GIVEN WITH THE SEED: THE CARDS: each row of YtenkdmloolbdaaaGreatDoorRows.lean that lists a variable, with what it lists TIED to the program's text (the seventh form; the later family's looks); each row that meets fmt, with fmt's text TOLD by the authors' own Lean function (tested against real Go, not proved from fmt's source: count such statements apart). THE CARD IS WHAT COUNTS. Prove the row's statement (the work); the ties are given (YtenkdmloolbdaaaGreatDoorTie.lean); close each card by the builder's one call (the guide's Derived/Test/ToyasCard.lean, 'card_holds'). Laid BY PROGRAM, IN A SANDBOX (cutbox-door.mjs). By AI agents, Wed Nov 11 2026. No macro, syntax, notation, axiom, sorry.
-/
import Derived.Test.YtenkdmloolbdaaaGreatDoorRows
import GoSem.ClaimSeven
namespace Go.Proofs.YtenkdmloolbdaaaGreatDoor
namespace Rows

/-- THE TIED CARD OF 'messuagelaw19.AllocAgain'. -/
def allocAgainCard : Claim7 := { stood := { row := allocAgainRow, standIns := [], harness := (true, "b04427541a1627cf3f886d41b4b9aea6cee2d5746abb2437222bdc381d941b79"), looks := false }, kinds := [], alts := [], laidByText := true, laidKinds := [.data], laidTests := true, laidLooks := .later }
def AllocAgainCardSaid : Prop := Claim7.holds Tryz.pinned (.plain (OpenSpec.ofChange allocAgainSpec)) allocAgainCard

/-- THE TIED CARD OF 'messuagelaw19.AllocSizes'. -/
def allocSizesCard : Claim7 := { stood := { row := allocSizesRow, standIns := [], harness := (true, "b04427541a1627cf3f886d41b4b9aea6cee2d5746abb2437222bdc381d941b79"), looks := false }, kinds := [], alts := [], laidByText := true, laidKinds := [.data], laidTests := true, laidLooks := .later }
def AllocSizesCardSaid : Prop := Claim7.holds Tryz.pinned (.plain (OpenSpec.ofChange allocSizesSpec)) allocSizesCard

/-- THE TIED CARD OF 'messuagelaw19.AllocFar'. -/
def allocFarCard : Claim7 := { stood := { row := allocFarRow, standIns := [], harness := (true, "b04427541a1627cf3f886d41b4b9aea6cee2d5746abb2437222bdc381d941b79"), looks := false }, kinds := [], alts := [], laidByText := true, laidKinds := [.data], laidTests := true, laidLooks := .later }
def AllocFarCardSaid : Prop := Claim7.holds Tryz.pinned (.plain (OpenSpec.ofChange allocFarSpec)) allocFarCard

/-- THE TIED CARD OF 'messuagelaw19.AllocClasses'. -/
def allocClassesCard : Claim7 := { stood := { row := allocClassesRow, standIns := [], harness := (true, "b04427541a1627cf3f886d41b4b9aea6cee2d5746abb2437222bdc381d941b79"), looks := false }, kinds := [], alts := [], laidByText := true, laidKinds := [.data], laidTests := true, laidLooks := .later }
def AllocClassesCardSaid : Prop := Claim7.holds Tryz.pinned (.plain (OpenSpec.ofChange allocClassesSpec)) allocClassesCard

/-- THE TIED CARD OF 'messuagelaw19.AllocLocal'. -/
def allocLocalCard : Claim7 := { stood := { row := allocLocalRow, standIns := [], harness := (true, "b04427541a1627cf3f886d41b4b9aea6cee2d5746abb2437222bdc381d941b79"), looks := false }, kinds := [], alts := [], laidByText := true, laidKinds := [.data], laidTests := true, laidLooks := .later }
def AllocLocalCardSaid : Prop := Claim7.holds Tryz.pinned (.plain (OpenSpec.ofChange allocLocalSpec)) allocLocalCard

/-- THE TIED CARD OF 'messuagelaw19.AllocNews'. -/
def allocNewsCard : Claim7 := { stood := { row := allocNewsRow, standIns := [], harness := (true, "b04427541a1627cf3f886d41b4b9aea6cee2d5746abb2437222bdc381d941b79"), looks := false }, kinds := [], alts := [], laidByText := true, laidKinds := [.data], laidTests := true, laidLooks := .later }
def AllocNewsCardSaid : Prop := Claim7.holds Tryz.pinned (.plain (OpenSpec.ofChange allocNewsSpec)) allocNewsCard

/-- THE TIED CARD OF 'messuagelaw19.AllocTouches'. -/
def allocTouchesCard : Claim7 := { stood := { row := allocTouchesRow, standIns := [], harness := (true, "b04427541a1627cf3f886d41b4b9aea6cee2d5746abb2437222bdc381d941b79"), looks := false }, kinds := [], alts := [], laidByText := true, laidKinds := [.data], laidTests := true, laidLooks := .later }
def AllocTouchesCardSaid : Prop := Claim7.holds Tryz.pinned (.plain (OpenSpec.ofChange allocTouchesSpec)) allocTouchesCard

/-- THE TIED CARD OF 'messuagelaw19.AllocCalls'. -/
def allocCallsCard : Claim7 := { stood := { row := allocCallsRow, standIns := [], harness := (true, "b04427541a1627cf3f886d41b4b9aea6cee2d5746abb2437222bdc381d941b79"), looks := false }, kinds := [], alts := [], laidByText := true, laidKinds := [.data], laidTests := true, laidLooks := .later }
def AllocCallsCardSaid : Prop := Claim7.holds Tryz.pinned (.plain (OpenSpec.ofChange allocCallsSpec)) allocCallsCard

/-- THE TIED CARD OF 'messuagelaw19.AllocMoves'. -/
def allocMovesCard : Claim7 := { stood := { row := allocMovesRow, standIns := [], harness := (true, "b04427541a1627cf3f886d41b4b9aea6cee2d5746abb2437222bdc381d941b79"), looks := false }, kinds := [], alts := [], laidByText := true, laidKinds := [.data], laidTests := true, laidLooks := .later }
def AllocMovesCardSaid : Prop := Claim7.holds Tryz.pinned (.plain (OpenSpec.ofChange allocMovesSpec)) allocMovesCard

/-- THE TIED CARD OF 'messuagelaw19.AllocPlaces'. -/
def allocPlacesCard : Claim7 := { stood := { row := allocPlacesRow, standIns := [], harness := (true, "b04427541a1627cf3f886d41b4b9aea6cee2d5746abb2437222bdc381d941b79"), looks := false }, kinds := [], alts := [], laidByText := true, laidKinds := [.data], laidTests := true, laidLooks := .later }
def AllocPlacesCardSaid : Prop := Claim7.holds Tryz.pinned (.plain (OpenSpec.ofChange allocPlacesSpec)) allocPlacesCard

/-- THE TIED CARD OF 'messuagelaw19.AllocBinds'. -/
def allocBindsCard : Claim7 := { stood := { row := allocBindsRow, standIns := [], harness := (true, "b04427541a1627cf3f886d41b4b9aea6cee2d5746abb2437222bdc381d941b79"), looks := false }, kinds := [], alts := [], laidByText := true, laidKinds := [.data], laidTests := true, laidLooks := .later }
def AllocBindsCardSaid : Prop := Claim7.holds Tryz.pinned (.plain (OpenSpec.ofChange allocBindsSpec)) allocBindsCard

/-- THE TIED CARD OF 'messuagelaw19.AllocReleases'. -/
def allocReleasesCard : Claim7 := { stood := { row := allocReleasesRow, standIns := [], harness := (true, "b04427541a1627cf3f886d41b4b9aea6cee2d5746abb2437222bdc381d941b79"), looks := false }, kinds := [], alts := [], laidByText := true, laidKinds := [.data], laidTests := true, laidLooks := .later }
def AllocReleasesCardSaid : Prop := Claim7.holds Tryz.pinned (.plain (OpenSpec.ofChange allocReleasesSpec)) allocReleasesCard

/-- THE SECOND FORM's CARD OF 'messuagelaw19.AllocAgain'. -/
def allocAgainUptoCard : Claim7 := { stood := { row := allocAgainUptoRow, standIns := [], harness := (true, "b04427541a1627cf3f886d41b4b9aea6cee2d5746abb2437222bdc381d941b79"), looks := false }, kinds := [], alts := [], laidByText := true, laidKinds := [.data], laidTests := true, laidLooks := .later }
def AllocAgainUptoCardSaid : Prop := Claim7.holds Tryz.pinned (.plain (OpenSpec.upto allocAgainSpec)) allocAgainUptoCard

/-- THE SECOND FORM's CARD OF 'messuagelaw19.AllocSizes'. -/
def allocSizesUptoCard : Claim7 := { stood := { row := allocSizesUptoRow, standIns := [], harness := (true, "b04427541a1627cf3f886d41b4b9aea6cee2d5746abb2437222bdc381d941b79"), looks := false }, kinds := [], alts := [], laidByText := true, laidKinds := [.data], laidTests := true, laidLooks := .later }
def AllocSizesUptoCardSaid : Prop := Claim7.holds Tryz.pinned (.plain (OpenSpec.upto allocSizesSpec)) allocSizesUptoCard

/-- THE SECOND FORM's CARD OF 'messuagelaw19.AllocFar'. -/
def allocFarUptoCard : Claim7 := { stood := { row := allocFarUptoRow, standIns := [], harness := (true, "b04427541a1627cf3f886d41b4b9aea6cee2d5746abb2437222bdc381d941b79"), looks := false }, kinds := [], alts := [], laidByText := true, laidKinds := [.data], laidTests := true, laidLooks := .later }
def AllocFarUptoCardSaid : Prop := Claim7.holds Tryz.pinned (.plain (OpenSpec.upto allocFarSpec)) allocFarUptoCard

/-- THE SECOND FORM's CARD OF 'messuagelaw19.AllocClasses'. -/
def allocClassesUptoCard : Claim7 := { stood := { row := allocClassesUptoRow, standIns := [], harness := (true, "b04427541a1627cf3f886d41b4b9aea6cee2d5746abb2437222bdc381d941b79"), looks := false }, kinds := [], alts := [], laidByText := true, laidKinds := [.data], laidTests := true, laidLooks := .later }
def AllocClassesUptoCardSaid : Prop := Claim7.holds Tryz.pinned (.plain (OpenSpec.upto allocClassesSpec)) allocClassesUptoCard

/-- THE SECOND FORM's CARD OF 'messuagelaw19.AllocLocal'. -/
def allocLocalUptoCard : Claim7 := { stood := { row := allocLocalUptoRow, standIns := [], harness := (true, "b04427541a1627cf3f886d41b4b9aea6cee2d5746abb2437222bdc381d941b79"), looks := false }, kinds := [], alts := [], laidByText := true, laidKinds := [.data], laidTests := true, laidLooks := .later }
def AllocLocalUptoCardSaid : Prop := Claim7.holds Tryz.pinned (.plain (OpenSpec.upto allocLocalSpec)) allocLocalUptoCard

/-- THE SECOND FORM's CARD OF 'messuagelaw19.AllocNews'. -/
def allocNewsUptoCard : Claim7 := { stood := { row := allocNewsUptoRow, standIns := [], harness := (true, "b04427541a1627cf3f886d41b4b9aea6cee2d5746abb2437222bdc381d941b79"), looks := false }, kinds := [], alts := [], laidByText := true, laidKinds := [.data], laidTests := true, laidLooks := .later }
def AllocNewsUptoCardSaid : Prop := Claim7.holds Tryz.pinned (.plain (OpenSpec.upto allocNewsSpec)) allocNewsUptoCard

/-- THE SECOND FORM's CARD OF 'messuagelaw19.AllocTouches'. -/
def allocTouchesUptoCard : Claim7 := { stood := { row := allocTouchesUptoRow, standIns := [], harness := (true, "b04427541a1627cf3f886d41b4b9aea6cee2d5746abb2437222bdc381d941b79"), looks := false }, kinds := [], alts := [], laidByText := true, laidKinds := [.data], laidTests := true, laidLooks := .later }
def AllocTouchesUptoCardSaid : Prop := Claim7.holds Tryz.pinned (.plain (OpenSpec.upto allocTouchesSpec)) allocTouchesUptoCard

/-- THE SECOND FORM's CARD OF 'messuagelaw19.AllocCalls'. -/
def allocCallsUptoCard : Claim7 := { stood := { row := allocCallsUptoRow, standIns := [], harness := (true, "b04427541a1627cf3f886d41b4b9aea6cee2d5746abb2437222bdc381d941b79"), looks := false }, kinds := [], alts := [], laidByText := true, laidKinds := [.data], laidTests := true, laidLooks := .later }
def AllocCallsUptoCardSaid : Prop := Claim7.holds Tryz.pinned (.plain (OpenSpec.upto allocCallsSpec)) allocCallsUptoCard

/-- THE SECOND FORM's CARD OF 'messuagelaw19.AllocMoves'. -/
def allocMovesUptoCard : Claim7 := { stood := { row := allocMovesUptoRow, standIns := [], harness := (true, "b04427541a1627cf3f886d41b4b9aea6cee2d5746abb2437222bdc381d941b79"), looks := false }, kinds := [], alts := [], laidByText := true, laidKinds := [.data], laidTests := true, laidLooks := .later }
def AllocMovesUptoCardSaid : Prop := Claim7.holds Tryz.pinned (.plain (OpenSpec.upto allocMovesSpec)) allocMovesUptoCard

/-- THE SECOND FORM's CARD OF 'messuagelaw19.AllocPlaces'. -/
def allocPlacesUptoCard : Claim7 := { stood := { row := allocPlacesUptoRow, standIns := [], harness := (true, "b04427541a1627cf3f886d41b4b9aea6cee2d5746abb2437222bdc381d941b79"), looks := false }, kinds := [], alts := [], laidByText := true, laidKinds := [.data], laidTests := true, laidLooks := .later }
def AllocPlacesUptoCardSaid : Prop := Claim7.holds Tryz.pinned (.plain (OpenSpec.upto allocPlacesSpec)) allocPlacesUptoCard

/-- THE SECOND FORM's CARD OF 'messuagelaw19.AllocBinds'. -/
def allocBindsUptoCard : Claim7 := { stood := { row := allocBindsUptoRow, standIns := [], harness := (true, "b04427541a1627cf3f886d41b4b9aea6cee2d5746abb2437222bdc381d941b79"), looks := false }, kinds := [], alts := [], laidByText := true, laidKinds := [.data], laidTests := true, laidLooks := .later }
def AllocBindsUptoCardSaid : Prop := Claim7.holds Tryz.pinned (.plain (OpenSpec.upto allocBindsSpec)) allocBindsUptoCard

/-- THE SECOND FORM's CARD OF 'messuagelaw19.AllocReleases'. -/
def allocReleasesUptoCard : Claim7 := { stood := { row := allocReleasesUptoRow, standIns := [], harness := (true, "b04427541a1627cf3f886d41b4b9aea6cee2d5746abb2437222bdc381d941b79"), looks := false }, kinds := [], alts := [], laidByText := true, laidKinds := [.data], laidTests := true, laidLooks := .later }
def AllocReleasesUptoCardSaid : Prop := Claim7.holds Tryz.pinned (.plain (OpenSpec.upto allocReleasesSpec)) allocReleasesUptoCard
end Rows
end Go.Proofs.YtenkdmloolbdaaaGreatDoor
