/-
  DERIVED. GIVEN WITH THE SEED: THE CARDS: each row of YtephgjjlbnminaaDoorRows.lean that lists a variable, with what it lists TIED to the program's text (the seventh form; the later family's looks); each row that meets fmt, with fmt's text TOLD by the authors' own Lean function (tested against real Go, not proved from fmt's source: count such statements apart). THE CARD IS WHAT COUNTS. Prove the row's statement (the work); the ties are given (YtephgjjlbnminaaDoorTie.lean); close each card by the builder's one call (the guide's Derived/Test/ToyasCard.lean, 'card_holds'). Laid BY PROGRAM, IN A SANDBOX (cutbox-door.mjs). By AI agents, Wed Nov 11 2026. No macro, syntax, notation, axiom, sorry.
-/
import Derived.Test.YtephgjjlbnminaaDoorRows
import GoSem.ClaimSeven
namespace Go.Proofs.YtephgjjlbnminaaDoor
namespace Rows

/-- THE TIED CARD OF 'messuagelaw22.HeapmapPacks'. -/
def heapmapPacksCard : Claim7 := { stood := { row := heapmapPacksRow, standIns := [], harness := (true, "1039703dd3d1f0b6f1b153f4a6e20547666f7e9a9679220683896bca6294fdb5"), looks := false }, kinds := [], alts := [], laidByText := true, laidKinds := [.data, .data, .data], laidTests := true, laidLooks := .later }
def HeapmapPacksCardSaid : Prop := Claim7.holds Tryd.pinned (.plain (OpenSpec.ofChange heapmapPacksSpec)) heapmapPacksCard

/-- THE TIED CARD OF 'messuagelaw22.HeapmapUnpacks'. -/
def heapmapUnpacksCard : Claim7 := { stood := { row := heapmapUnpacksRow, standIns := [], harness := (true, "1039703dd3d1f0b6f1b153f4a6e20547666f7e9a9679220683896bca6294fdb5"), looks := false }, kinds := [], alts := [], laidByText := true, laidKinds := [.data, .data, .data], laidTests := true, laidLooks := .later }
def HeapmapUnpacksCardSaid : Prop := Claim7.holds Tryd.pinned (.plain (OpenSpec.ofChange heapmapUnpacksSpec)) heapmapUnpacksCard

/-- THE TIED CARD OF 'messuagelaw22.HeapmapLong'. -/
def heapmapLongCard : Claim7 := { stood := { row := heapmapLongRow, standIns := [], harness := (true, "1039703dd3d1f0b6f1b153f4a6e20547666f7e9a9679220683896bca6294fdb5"), looks := false }, kinds := [], alts := [], laidByText := true, laidKinds := [.data, .data, .data], laidTests := true, laidLooks := .later }
def HeapmapLongCardSaid : Prop := Claim7.holds Tryd.pinned (.plain (OpenSpec.ofChange heapmapLongSpec)) heapmapLongCard

/-- THE SECOND FORM's CARD OF 'messuagelaw22.HeapmapPacks'. -/
def heapmapPacksUptoCard : Claim7 := { stood := { row := heapmapPacksUptoRow, standIns := [], harness := (true, "1039703dd3d1f0b6f1b153f4a6e20547666f7e9a9679220683896bca6294fdb5"), looks := false }, kinds := [], alts := [], laidByText := true, laidKinds := [.data, .data, .data], laidTests := true, laidLooks := .later }
def HeapmapPacksUptoCardSaid : Prop := Claim7.holds Tryd.pinned (.plain (OpenSpec.upto heapmapPacksSpec)) heapmapPacksUptoCard

/-- THE SECOND FORM's CARD OF 'messuagelaw22.HeapmapUnpacks'. -/
def heapmapUnpacksUptoCard : Claim7 := { stood := { row := heapmapUnpacksUptoRow, standIns := [], harness := (true, "1039703dd3d1f0b6f1b153f4a6e20547666f7e9a9679220683896bca6294fdb5"), looks := false }, kinds := [], alts := [], laidByText := true, laidKinds := [.data, .data, .data], laidTests := true, laidLooks := .later }
def HeapmapUnpacksUptoCardSaid : Prop := Claim7.holds Tryd.pinned (.plain (OpenSpec.upto heapmapUnpacksSpec)) heapmapUnpacksUptoCard

/-- THE SECOND FORM's CARD OF 'messuagelaw22.HeapmapLong'. -/
def heapmapLongUptoCard : Claim7 := { stood := { row := heapmapLongUptoRow, standIns := [], harness := (true, "1039703dd3d1f0b6f1b153f4a6e20547666f7e9a9679220683896bca6294fdb5"), looks := false }, kinds := [], alts := [], laidByText := true, laidKinds := [.data, .data, .data], laidTests := true, laidLooks := .later }
def HeapmapLongUptoCardSaid : Prop := Claim7.holds Tryd.pinned (.plain (OpenSpec.upto heapmapLongSpec)) heapmapLongUptoCard
end Rows
end Go.Proofs.YtephgjjlbnminaaDoor
