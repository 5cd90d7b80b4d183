/-
  No cell of these rows narrows 'for every input' (looked for: loops, veiled, ifaces, maps, wideKeys, modest, calm, conditions, laid).
  DERIVED. THE GIVEN ROWS OF THIS SEAT. 3 by the template 'for every input the law returns true; each argument reads behind the call as it read before'; 0 by the template 'total and deterministic' (their statements: YtpnmbdhjmlidaaaTotals.lean).
  GIVEN WITH THE SEED: the statements are not yours to turn. If you find one false, say at which input.
  Laid BY PROGRAM, IN A SANDBOX (cutbox-rows.mjs): the forced cells as the released guide's own fill.sh prints them over the translation 56ed2cda305e53bd… (all of the seat's roots in one cut). By AI agents, Wed Nov 11 2026. No macro, syntax, notation, axiom, sorry.
-/
import Derived.Test.YtpnmbdhjmlidaaaChecked
import GoSem.Claim
import GoSem.ClaimJoined
import GoSem.ClaimMapViews
import Derived.JoinedTies
import Derived.KernelRfl
namespace Go.Proofs.Ytpnmbdhjmlidaaa
/- THE CELL 'sum', in the pinned program and in every row, IS THE sha256 OF THE DUMP (.gsa) THAT YtpnmbdhjmlidaaaProg.lean LOADS. Nothing in Lean hashes anything: it is a label: what it is worth is what the hold of that sum in a sandbox is worth. -/
noncomputable def Try.pinned : Pinned := { name := "ytpnmbdhjmlidaaa", sum := "56ed2cda305e53bdda8e2b0dff43b28f0d411f5d26fb0b499efc6ea8a95f4af1", checked := Try.checked }
namespace Rows
def none {H : Type} : Left H := { results := [], args := [] }

/-- 'messuagelaw17.SpaceHoles': WHATEVER THE INPUT: true; the input reads as it did. -/
def spaceHolesSpec : ChangeSpec := { name := "spaceHoles", fn := fun _ => fun
  | [d1, d2] => { results := [.lit (.bool true)], args := [d1, d2] }
  | _ => none }
def spaceHolesRow : OpenClaim := { program := "ytpnmbdhjmlidaaa", sum := "56ed2cda305e53bdda8e2b0dff43b28f0d411f5d26fb0b499efc6ea8a95f4af1", func := "messuage/messuagelaw17.SpaceHoles", spec := "spaceHoles", inPlace := ["slices.overlaps[messuage/space.run]"], unfollowed := true, recurses := true, apart := false }
def SpaceHolesSaid : Prop := spaceHolesRow.holds Try.pinned (OpenSpec.ofChange spaceHolesSpec)

/-- ITS FALSE NEIGHBOUR: 'it returns false'. Refute it at one input. -/
def spaceHolesWrong : ChangeSpec := { name := "spaceHoles", fn := fun _ => fun
  | [d1, d2] => { results := [.lit (.bool false)], args := [d1, d2] }
  | _ => none }
def SpaceHolesWrongFalsely : Prop := spaceHolesRow.holds Try.pinned (OpenSpec.ofChange spaceHolesWrong)

/-- 'messuagelaw17.SpaceWhole': WHATEVER THE INPUT: true; the input reads as it did. -/
def spaceWholeSpec : ChangeSpec := { name := "spaceWhole", fn := fun _ => fun
  | [d1, d2] => { results := [.lit (.bool true)], args := [d1, d2] }
  | _ => none }
def spaceWholeRow : OpenClaim := { program := "ytpnmbdhjmlidaaa", sum := "56ed2cda305e53bdda8e2b0dff43b28f0d411f5d26fb0b499efc6ea8a95f4af1", func := "messuage/messuagelaw17.SpaceWhole", spec := "spaceWhole", inPlace := ["slices.overlaps[messuage/space.run]"], unfollowed := true, recurses := true, apart := false }
def SpaceWholeSaid : Prop := spaceWholeRow.holds Try.pinned (OpenSpec.ofChange spaceWholeSpec)

/-- ITS FALSE NEIGHBOUR: 'it returns false'. Refute it at one input. -/
def spaceWholeWrong : ChangeSpec := { name := "spaceWhole", fn := fun _ => fun
  | [d1, d2] => { results := [.lit (.bool false)], args := [d1, d2] }
  | _ => none }
def SpaceWholeWrongFalsely : Prop := spaceWholeRow.holds Try.pinned (OpenSpec.ofChange spaceWholeWrong)

/-- 'messuagelaw17.SpaceActs': WHATEVER THE INPUT: true; the input reads as it did. -/
def spaceActsSpec : ChangeSpec := { name := "spaceActs", fn := fun _ => fun
  | [d] => { results := [.lit (.bool true)], args := [d] }
  | _ => none }
def spaceActsRow : OpenClaim := { program := "ytpnmbdhjmlidaaa", sum := "56ed2cda305e53bdda8e2b0dff43b28f0d411f5d26fb0b499efc6ea8a95f4af1", func := "messuage/messuagelaw17.SpaceActs", spec := "spaceActs", inPlace := ["slices.overlaps[messuage/space.run]"], unfollowed := true, recurses := true, apart := false }
def SpaceActsSaid : Prop := spaceActsRow.holds Try.pinned (OpenSpec.ofChange spaceActsSpec)

/-- ITS FALSE NEIGHBOUR: 'it returns false'. Refute it at one input. -/
def spaceActsWrong : ChangeSpec := { name := "spaceActs", fn := fun _ => fun
  | [d] => { results := [.lit (.bool false)], args := [d] }
  | _ => none }
def SpaceActsWrongFalsely : Prop := spaceActsRow.holds Try.pinned (OpenSpec.ofChange spaceActsWrong)

/- THE SECOND FORM. 'bulk': how many values and letters a reading holds, each counted each time it is reached (what is shared counts as often as it is met; a slice's spare places count too). A statement '..UptoSaid' is the law's where the arguments, and the package variables that the reading takes, are together of bulk at most 1048576: NARROWER than '..Said'. Prove '..Said' where nothing that the law and all that it calls make is longer than what came in: it says more and counts as full. Else prove '..UptoSaid'. A law counts once. -/
mutual
def uptoBulk {H : Type} : DataW H → Nat
  | .lit (.string bytes) => bytes.length + 1
  | .lit _ => 1
  | .nil => 1
  | .ptr d => uptoBulk d + 1
  | .slice elems spare => uptoBulkAll elems + uptoBulkAll spare + 1
  | .agg parts => uptoBulkAll parts + 1
  | .iface _ d => uptoBulk d + 1
  | .map entries => uptoBulkEntries entries + 1
  | .held _ => 1
def uptoBulkAll {H : Type} : List (DataW H) → Nat
  | [] => 0
  | d :: r => uptoBulk d + uptoBulkAll r
def uptoBulkEntries {H : Type} : List (Lit × DataW H) → Nat
  | [] => 0
  | x :: r => uptoBulkEntry x + uptoBulkEntries r
def uptoBulkEntry {H : Type} : Lit × DataW H → Nat
  | (.string bytes, d) => bytes.length + uptoBulk d + 1
  | (_, d) => uptoBulk d + 1
 end
def uptoSmall : (H : Type) → List (DataW H) → Bool := fun _ ds => decide (uptoBulkAll ds ≤ 1048576)
def OpenSpec.upto (s : _root_.Go.ChangeSpec) : _root_.Go.OpenSpec := { _root_.Go.OpenSpec.ofChange s with cond := some uptoSmall }

/-- 'messuagelaw17.SpaceHoles', WHERE WHAT IT READS IS OF BULK AT MOST 1048576: true; the input reads as it did. -/
def spaceHolesUptoRow : OpenClaim := { program := "ytpnmbdhjmlidaaa", sum := "56ed2cda305e53bdda8e2b0dff43b28f0d411f5d26fb0b499efc6ea8a95f4af1", func := "messuage/messuagelaw17.SpaceHoles", spec := "spaceHoles", inPlace := ["slices.overlaps[messuage/space.run]"], unfollowed := true, recurses := true, apart := false, narrowed := true }
def SpaceHolesUptoSaid : Prop := spaceHolesUptoRow.holds Try.pinned (OpenSpec.upto spaceHolesSpec)

/-- 'messuagelaw17.SpaceWhole', WHERE WHAT IT READS IS OF BULK AT MOST 1048576: true; the input reads as it did. -/
def spaceWholeUptoRow : OpenClaim := { program := "ytpnmbdhjmlidaaa", sum := "56ed2cda305e53bdda8e2b0dff43b28f0d411f5d26fb0b499efc6ea8a95f4af1", func := "messuage/messuagelaw17.SpaceWhole", spec := "spaceWhole", inPlace := ["slices.overlaps[messuage/space.run]"], unfollowed := true, recurses := true, apart := false, narrowed := true }
def SpaceWholeUptoSaid : Prop := spaceWholeUptoRow.holds Try.pinned (OpenSpec.upto spaceWholeSpec)

/-- 'messuagelaw17.SpaceActs', WHERE WHAT IT READS IS OF BULK AT MOST 1048576: true; the input reads as it did. -/
def spaceActsUptoRow : OpenClaim := { program := "ytpnmbdhjmlidaaa", sum := "56ed2cda305e53bdda8e2b0dff43b28f0d411f5d26fb0b499efc6ea8a95f4af1", func := "messuage/messuagelaw17.SpaceActs", spec := "spaceActs", inPlace := ["slices.overlaps[messuage/space.run]"], unfollowed := true, recurses := true, apart := false, narrowed := true }
def SpaceActsUptoSaid : Prop := spaceActsUptoRow.holds Try.pinned (OpenSpec.upto spaceActsSpec)

end Rows
end Go.Proofs.Ytpnmbdhjmlidaaa
