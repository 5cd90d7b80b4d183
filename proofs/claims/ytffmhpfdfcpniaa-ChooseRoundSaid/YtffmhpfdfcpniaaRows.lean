/-
  No cell of these rows narrows 'for every input' (looked for: loops, veiled, ifaces, maps, wideKeys, modest, calm, conditions, laid).
  DERIVED. THE GIVEN ROWS OF THIS SEAT. 7 by the template 'for every input the law returns true; each argument reads behind the call as it read before'; 0 by the template 'total and deterministic' (their statements: YtffmhpfdfcpniaaTotals.lean).
  GIVEN WITH THE SEED: the statements are not yours to turn. If you find one false, say at which input.
  Laid BY PROGRAM, IN A SANDBOX (cutbox-rows.mjs): the forced cells as the released guide's own fill.sh prints them over the translation 1e8ea22880d289dd… (all of the seat's roots in one cut). By AI agents, Wed Nov 11 2026. No macro, syntax, notation, axiom, sorry.
-/
import Derived.Test.YtffmhpfdfcpniaaChecked
import GoSem.Claim
import GoSem.ClaimJoined
import GoSem.ClaimMapViews
import Derived.JoinedTies
import Derived.KernelRfl
namespace Go.Proofs.Ytffmhpfdfcpniaa
/- THE CELL 'sum', in the pinned program and in every row, IS THE sha256 OF THE DUMP (.gsa) THAT YtffmhpfdfcpniaaProg.lean LOADS. Nothing in Lean hashes anything: it is a label: what it is worth is what the hold of that sum in a sandbox is worth. -/
noncomputable def Try.pinned : Pinned := { name := "ytffmhpfdfcpniaa", sum := "1e8ea22880d289ddeaaf510a36d4aed37e01977a01f70964ad74d090a20ebc0d", checked := Try.checked }
namespace Rows
def none {H : Type} : Left H := { results := [], args := [] }

/-- 'messuagelaw04.ZoneOrders': WHATEVER THE INPUT: true; the input reads as it did. -/
def zoneOrdersSpec : ChangeSpec := { name := "zoneOrders", fn := fun _ => fun
  | [d1, d2] => { results := [.lit (.bool true)], args := [d1, d2] }
  | _ => none }
def zoneOrdersRow : OpenClaim := { program := "ytffmhpfdfcpniaa", sum := "1e8ea22880d289ddeaaf510a36d4aed37e01977a01f70964ad74d090a20ebc0d", func := "messuage/messuagelaw04.ZoneOrders", spec := "zoneOrders", unfollowed := true, recurses := true, apart := false }
def ZoneOrdersSaid : Prop := zoneOrdersRow.holds Try.pinned (OpenSpec.ofChange zoneOrdersSpec)

/-- ITS FALSE NEIGHBOUR: 'it returns false'. Refute it at one input. -/
def zoneOrdersWrong : ChangeSpec := { name := "zoneOrders", fn := fun _ => fun
  | [d1, d2] => { results := [.lit (.bool false)], args := [d1, d2] }
  | _ => none }
def ZoneOrdersWrongFalsely : Prop := zoneOrdersRow.holds Try.pinned (OpenSpec.ofChange zoneOrdersWrong)

/-- 'messuagelaw04.ZoneNear': WHATEVER THE INPUT: true; the input reads as it did. -/
def zoneNearSpec : ChangeSpec := { name := "zoneNear", fn := fun _ => fun
  | [d1, d2, d3] => { results := [.lit (.bool true)], args := [d1, d2, d3] }
  | _ => none }
def zoneNearRow : OpenClaim := { program := "ytffmhpfdfcpniaa", sum := "1e8ea22880d289ddeaaf510a36d4aed37e01977a01f70964ad74d090a20ebc0d", func := "messuage/messuagelaw04.ZoneNear", spec := "zoneNear", unfollowed := true, recurses := true, apart := false }
def ZoneNearSaid : Prop := zoneNearRow.holds Try.pinned (OpenSpec.ofChange zoneNearSpec)

/-- ITS FALSE NEIGHBOUR: 'it returns false'. Refute it at one input. -/
def zoneNearWrong : ChangeSpec := { name := "zoneNear", fn := fun _ => fun
  | [d1, d2, d3] => { results := [.lit (.bool false)], args := [d1, d2, d3] }
  | _ => none }
def ZoneNearWrongFalsely : Prop := zoneNearRow.holds Try.pinned (OpenSpec.ofChange zoneNearWrong)

/-- 'messuagelaw04.ZoneAll': WHATEVER THE INPUT: true; the input reads as it did. -/
def zoneAllSpec : ChangeSpec := { name := "zoneAll", fn := fun _ => fun
  | [d1, d2] => { results := [.lit (.bool true)], args := [d1, d2] }
  | _ => none }
def zoneAllRow : OpenClaim := { program := "ytffmhpfdfcpniaa", sum := "1e8ea22880d289ddeaaf510a36d4aed37e01977a01f70964ad74d090a20ebc0d", func := "messuage/messuagelaw04.ZoneAll", spec := "zoneAll", unfollowed := true, recurses := true, apart := false }
def ZoneAllSaid : Prop := zoneAllRow.holds Try.pinned (OpenSpec.ofChange zoneAllSpec)

/-- ITS FALSE NEIGHBOUR: 'it returns false'. Refute it at one input. -/
def zoneAllWrong : ChangeSpec := { name := "zoneAll", fn := fun _ => fun
  | [d1, d2] => { results := [.lit (.bool false)], args := [d1, d2] }
  | _ => none }
def ZoneAllWrongFalsely : Prop := zoneAllRow.holds Try.pinned (OpenSpec.ofChange zoneAllWrong)

/-- 'messuagelaw11.ChooseTells': WHATEVER THE INPUT: true; the input reads as it did. -/
def chooseTellsSpec : ChangeSpec := { name := "chooseTells", fn := fun _ => fun
  | [d1, d2, d3] => { results := [.lit (.bool true)], args := [d1, d2, d3] }
  | _ => none }
def chooseTellsRow : OpenClaim := { program := "ytffmhpfdfcpniaa", sum := "1e8ea22880d289ddeaaf510a36d4aed37e01977a01f70964ad74d090a20ebc0d", func := "messuage/messuagelaw11.ChooseTells", spec := "chooseTells", unfollowed := true, recurses := true, apart := false }
def ChooseTellsSaid : Prop := chooseTellsRow.holds Try.pinned (OpenSpec.ofChange chooseTellsSpec)

/-- ITS FALSE NEIGHBOUR: 'it returns false'. Refute it at one input. -/
def chooseTellsWrong : ChangeSpec := { name := "chooseTells", fn := fun _ => fun
  | [d1, d2, d3] => { results := [.lit (.bool false)], args := [d1, d2, d3] }
  | _ => none }
def ChooseTellsWrongFalsely : Prop := chooseTellsRow.holds Try.pinned (OpenSpec.ofChange chooseTellsWrong)

/-- 'messuagelaw11.ChooseNear': WHATEVER THE INPUT: true; the input reads as it did. -/
def chooseNearSpec : ChangeSpec := { name := "chooseNear", fn := fun _ => fun
  | [d1, d2, d3] => { results := [.lit (.bool true)], args := [d1, d2, d3] }
  | _ => none }
def chooseNearRow : OpenClaim := { program := "ytffmhpfdfcpniaa", sum := "1e8ea22880d289ddeaaf510a36d4aed37e01977a01f70964ad74d090a20ebc0d", func := "messuage/messuagelaw11.ChooseNear", spec := "chooseNear", unfollowed := true, recurses := true, apart := false }
def ChooseNearSaid : Prop := chooseNearRow.holds Try.pinned (OpenSpec.ofChange chooseNearSpec)

/-- ITS FALSE NEIGHBOUR: 'it returns false'. Refute it at one input. -/
def chooseNearWrong : ChangeSpec := { name := "chooseNear", fn := fun _ => fun
  | [d1, d2, d3] => { results := [.lit (.bool false)], args := [d1, d2, d3] }
  | _ => none }
def ChooseNearWrongFalsely : Prop := chooseNearRow.holds Try.pinned (OpenSpec.ofChange chooseNearWrong)

/-- 'messuagelaw11.ChooseRound': WHATEVER THE INPUT: true; the input reads as it did. -/
def chooseRoundSpec : ChangeSpec := { name := "chooseRound", fn := fun _ => fun
  | [d1, d2] => { results := [.lit (.bool true)], args := [d1, d2] }
  | _ => none }
def chooseRoundRow : OpenClaim := { program := "ytffmhpfdfcpniaa", sum := "1e8ea22880d289ddeaaf510a36d4aed37e01977a01f70964ad74d090a20ebc0d", func := "messuage/messuagelaw11.ChooseRound", spec := "chooseRound", unfollowed := true, recurses := true, apart := false }
def ChooseRoundSaid : Prop := chooseRoundRow.holds Try.pinned (OpenSpec.ofChange chooseRoundSpec)

/-- ITS FALSE NEIGHBOUR: 'it returns false'. Refute it at one input. -/
def chooseRoundWrong : ChangeSpec := { name := "chooseRound", fn := fun _ => fun
  | [d1, d2] => { results := [.lit (.bool false)], args := [d1, d2] }
  | _ => none }
def ChooseRoundWrongFalsely : Prop := chooseRoundRow.holds Try.pinned (OpenSpec.ofChange chooseRoundWrong)

/-- 'messuagelaw11.ChooseOnly': WHATEVER THE INPUT: true; the input reads as it did. -/
def chooseOnlySpec : ChangeSpec := { name := "chooseOnly", fn := fun _ => fun
  | [d1, d2, d3] => { results := [.lit (.bool true)], args := [d1, d2, d3] }
  | _ => none }
def chooseOnlyRow : OpenClaim := { program := "ytffmhpfdfcpniaa", sum := "1e8ea22880d289ddeaaf510a36d4aed37e01977a01f70964ad74d090a20ebc0d", func := "messuage/messuagelaw11.ChooseOnly", spec := "chooseOnly", unfollowed := true, recurses := true, apart := false }
def ChooseOnlySaid : Prop := chooseOnlyRow.holds Try.pinned (OpenSpec.ofChange chooseOnlySpec)

/-- ITS FALSE NEIGHBOUR: 'it returns false'. Refute it at one input. -/
def chooseOnlyWrong : ChangeSpec := { name := "chooseOnly", fn := fun _ => fun
  | [d1, d2, d3] => { results := [.lit (.bool false)], args := [d1, d2, d3] }
  | _ => none }
def ChooseOnlyWrongFalsely : Prop := chooseOnlyRow.holds Try.pinned (OpenSpec.ofChange chooseOnlyWrong)

/- THE SECOND FORM. 'bulk': how many values and letters a reading holds, each counted each time it is reached (what is shared counts as often as it is met; a slice's spare places count too). A statement '..UptoSaid' is the law's where the arguments, and the package variables that the reading takes, are together of bulk at most 1048576: NARROWER than '..Said'. Prove '..Said' where nothing that the law and all that it calls make is longer than what came in: it says more and counts as full. Else prove '..UptoSaid'. A law counts once. -/
mutual
def uptoBulk {H : Type} : DataW H → Nat
  | .lit (.string bytes) => bytes.length + 1
  | .lit _ => 1
  | .nil => 1
  | .ptr d => uptoBulk d + 1
  | .slice elems spare => uptoBulkAll elems + uptoBulkAll spare + 1
  | .agg parts => uptoBulkAll parts + 1
  | .iface _ d => uptoBulk d + 1
  | .map entries => uptoBulkEntries entries + 1
  | .held _ => 1
def uptoBulkAll {H : Type} : List (DataW H) → Nat
  | [] => 0
  | d :: r => uptoBulk d + uptoBulkAll r
def uptoBulkEntries {H : Type} : List (Lit × DataW H) → Nat
  | [] => 0
  | x :: r => uptoBulkEntry x + uptoBulkEntries r
def uptoBulkEntry {H : Type} : Lit × DataW H → Nat
  | (.string bytes, d) => bytes.length + uptoBulk d + 1
  | (_, d) => uptoBulk d + 1
 end
def uptoSmall : (H : Type) → List (DataW H) → Bool := fun _ ds => decide (uptoBulkAll ds ≤ 1048576)
def OpenSpec.upto (s : _root_.Go.ChangeSpec) : _root_.Go.OpenSpec := { _root_.Go.OpenSpec.ofChange s with cond := some uptoSmall }

/-- 'messuagelaw04.ZoneOrders', WHERE WHAT IT READS IS OF BULK AT MOST 1048576: true; the input reads as it did. -/
def zoneOrdersUptoRow : OpenClaim := { program := "ytffmhpfdfcpniaa", sum := "1e8ea22880d289ddeaaf510a36d4aed37e01977a01f70964ad74d090a20ebc0d", func := "messuage/messuagelaw04.ZoneOrders", spec := "zoneOrders", unfollowed := true, recurses := true, apart := false, narrowed := true }
def ZoneOrdersUptoSaid : Prop := zoneOrdersUptoRow.holds Try.pinned (OpenSpec.upto zoneOrdersSpec)

/-- 'messuagelaw04.ZoneNear', WHERE WHAT IT READS IS OF BULK AT MOST 1048576: true; the input reads as it did. -/
def zoneNearUptoRow : OpenClaim := { program := "ytffmhpfdfcpniaa", sum := "1e8ea22880d289ddeaaf510a36d4aed37e01977a01f70964ad74d090a20ebc0d", func := "messuage/messuagelaw04.ZoneNear", spec := "zoneNear", unfollowed := true, recurses := true, apart := false, narrowed := true }
def ZoneNearUptoSaid : Prop := zoneNearUptoRow.holds Try.pinned (OpenSpec.upto zoneNearSpec)

/-- 'messuagelaw04.ZoneAll', WHERE WHAT IT READS IS OF BULK AT MOST 1048576: true; the input reads as it did. -/
def zoneAllUptoRow : OpenClaim := { program := "ytffmhpfdfcpniaa", sum := "1e8ea22880d289ddeaaf510a36d4aed37e01977a01f70964ad74d090a20ebc0d", func := "messuage/messuagelaw04.ZoneAll", spec := "zoneAll", unfollowed := true, recurses := true, apart := false, narrowed := true }
def ZoneAllUptoSaid : Prop := zoneAllUptoRow.holds Try.pinned (OpenSpec.upto zoneAllSpec)

/-- 'messuagelaw11.ChooseTells', WHERE WHAT IT READS IS OF BULK AT MOST 1048576: true; the input reads as it did. -/
def chooseTellsUptoRow : OpenClaim := { program := "ytffmhpfdfcpniaa", sum := "1e8ea22880d289ddeaaf510a36d4aed37e01977a01f70964ad74d090a20ebc0d", func := "messuage/messuagelaw11.ChooseTells", spec := "chooseTells", unfollowed := true, recurses := true, apart := false, narrowed := true }
def ChooseTellsUptoSaid : Prop := chooseTellsUptoRow.holds Try.pinned (OpenSpec.upto chooseTellsSpec)

/-- 'messuagelaw11.ChooseNear', WHERE WHAT IT READS IS OF BULK AT MOST 1048576: true; the input reads as it did. -/
def chooseNearUptoRow : OpenClaim := { program := "ytffmhpfdfcpniaa", sum := "1e8ea22880d289ddeaaf510a36d4aed37e01977a01f70964ad74d090a20ebc0d", func := "messuage/messuagelaw11.ChooseNear", spec := "chooseNear", unfollowed := true, recurses := true, apart := false, narrowed := true }
def ChooseNearUptoSaid : Prop := chooseNearUptoRow.holds Try.pinned (OpenSpec.upto chooseNearSpec)

/-- 'messuagelaw11.ChooseRound', WHERE WHAT IT READS IS OF BULK AT MOST 1048576: true; the input reads as it did. -/
def chooseRoundUptoRow : OpenClaim := { program := "ytffmhpfdfcpniaa", sum := "1e8ea22880d289ddeaaf510a36d4aed37e01977a01f70964ad74d090a20ebc0d", func := "messuage/messuagelaw11.ChooseRound", spec := "chooseRound", unfollowed := true, recurses := true, apart := false, narrowed := true }
def ChooseRoundUptoSaid : Prop := chooseRoundUptoRow.holds Try.pinned (OpenSpec.upto chooseRoundSpec)

/-- 'messuagelaw11.ChooseOnly', WHERE WHAT IT READS IS OF BULK AT MOST 1048576: true; the input reads as it did. -/
def chooseOnlyUptoRow : OpenClaim := { program := "ytffmhpfdfcpniaa", sum := "1e8ea22880d289ddeaaf510a36d4aed37e01977a01f70964ad74d090a20ebc0d", func := "messuage/messuagelaw11.ChooseOnly", spec := "chooseOnly", unfollowed := true, recurses := true, apart := false, narrowed := true }
def ChooseOnlyUptoSaid : Prop := chooseOnlyUptoRow.holds Try.pinned (OpenSpec.upto chooseOnlySpec)

end Rows
end Go.Proofs.Ytffmhpfdfcpniaa
