/- The row of AllocCalls, and its card: the row tied to the program's text. -/
import Derived.Test.YtenkdmloolbdaaaGreatDoorRows
import Derived.Test.YtenkdmloolbdaaaGreatDoorCards
import Derived.Test.YtenkdmloolbdaaaGreatDoorTie
import Derived.Test.YtenkdmloolbdaaaGreatDoorB00
import Derived.Test.YtenkdmloolbdaaaGreatDoorB08
import Derived.Test.YtenkdmloolbdaaaGreatDoorB41
import Derived.Test.YtenkdmloolbdaaaGreatDoorB42
import Derived.WalkKit
import Derived.ProofKit
import Derived.LaidMore
import Derived.OpenShut
import Derived.ShutString
import Derived.ChangeOld
import Derived.Below
import Derived.SizedLaws
import Derived.Stop.Joined
import Derived.SevenTiedAt
import Derived.ChangeSlices
section
namespace Go.Proofs.YtenkdmloolbdaaaGreatDoor.allocCalls
open Go.ChangeShapes Go.WideShapes Go.ChangeAt Go.RowKit
open Go.ChangeMaps (open_string shut_string)
set_option linter.unusedVariables false
theorem own : ownKnob Tryz.prog.godebug = none := by kernel_rfl
theorem inPlace : Tryz.prog.inPlace 10 = Rows.allocCallsRow.inPlace := by kernel_rfl
theorem unfollowed : Tryz.prog.unfollowed 10 = Rows.allocCallsRow.unfollowed := by kernel_rfl
theorem recurses : Tryz.prog.recurses 10 = Rows.allocCallsRow.recurses := by kernel_rfl
theorem named : Tryz.prog.varsNamed 10 = Rows.allocCallsRow.named := by kernel_rfl
theorem goes : false = Rows.allocCallsRow.goesBy Tryz.prog := by kernel_rfl
theorem text : Rows.allocCallsRow.wfByText (OpenSpec.ofChange Rows.allocCallsSpec) = true := by kernel_rfl
theorem facts : joinedFacts Tryz.prog 10 Tryz.f10 Rows.allocCallsSpec Rows.allocCallsRow = true := by
  unfold joinedFacts
  rw [F.laid, F.rowed, inPlace, unfollowed, recurses, named, F.keys, F.heard, F.enter, F.lifts, F.make]
  kernel_rfl
theorem called : Tryz.prog.funcNamed "messuage/messuagelaw19.AllocCalls" = some 10 := by kernel_rfl
theorem gRows : Tryz.prog.globalNamed "messuage/class.rows" = some 0 := by kernel_rfl
theorem tRows : (Tryz.prog.globals[0]?).map (·.type) = some 250 := by kernel_rfl
/-- What the condition gives the walk: the class table. -/
theorem of_laid {W : World} (h : laidMetH Tryz.prog Rows.allocCallsRow.laid W) : T.GlobR W := by
  rw [MakeChecks.laidMetH_plain _ _ _ (by kernel_rfl)] at h
  obtain ⟨ps, ⟨g0, t0, cs0, f0, p0, q0, hg0, ht0, hv0, hd0, _⟩, _⟩ := h
  obtain rfl := Option.some.inj (gRows.symm.trans hg0)
  obtain rfl := Option.some.inj (tRows.symm.trans ht0)
  exact T.glob_laid hv0 hd0
/-- The heap that the program's own door leaves meets the condition. -/
theorem door_met (os : Os) (args : Array Value) : laidMetH Tryz.prog Rows.allocCallsRow.laid ((World.doorLaid Tryz.prog 4000 os).forCall (fun _ _ => 0) ⟨#[], args, []⟩).memory :=
  laidMetH_of_parts3 (fuel := 8) (laidMet_of_run' 8 (by kernel_rfl) (by kernel_rfl)) (by kernel_rfl) (by kernel_rfl)
set_option maxRecDepth 100000 in
theorem lifted (os : Os) (started : os.Started) (H : Type) (enc : TypeId × Value → H) :
    ReturnsInHanded {} Tryz.checked os 10 .any (fun w args => (Rows.allocCallsSpec.pre enc Tryz.prog Tryz.f10 [] false w args ∧ laidMetH Tryz.prog Rows.allocCallsRow.laid w) ∧ sizedMet enc Tryz.prog Tryz.f10 (OpenSpec.ofChange Rows.allocCallsSpec) false w args)
      (Rows.allocCallsSpec.post enc Tryz.prog Tryz.f10 false true false false) := by
  refine returnsInHanded_of_change_and (C := Tryz.checked) (X := fun w _ => laidMetH Tryz.prog Rows.allocCallsRow.laid w) (fun _ _ _ hh h => h.of_heap hh) own started (by kernel_rfl) Tryz.func10
    (ChangeSpec.witness_shaped (enc := enc) (C := Tryz.checked) (os := os) (X := fun w _ => laidMetH Tryz.prog Rows.allocCallsRow.laid w) false (World.doorLaid Tryz.prog 4000 os) #[.agg #[.int .i64 0, .int .i64 0], .int .i64 0, .int .i64 0] 8 rfl (World.shaped_of_RefB (by kernel_rfl) (by kernel_rfl)) (by kernel_rfl) (by kernel_rfl) (by kernel_rfl) (door_met os _)) ?_
  intro W base args ds gs before hval0 hW _ _ hL _
  have hval : ∀ (j : Nat) t v, Tryz.f10.params[j]? = some t → args[j]? = some v → Value.okWide Tryz.prog W .any base t v := hval0
  have hW' := hW
  obtain ⟨p, q, hA0, hV, rfl, hfz, hnd⟩ := hW
  have hA : DataW.TrodAll enc Tryz.prog W 0 (fun _ => true) true Tryz.f10.params.toList args.toList ds p := hA0
  rw [Tryz.params10] at hA hval
  obtain ⟨v0, vs0, d0, ds0, p0, q0, hargs0, rfl, rfl, h0, r0⟩ := trodAll_cons hA
  obtain ⟨v1, vs1, d1, ds1, p1, q1, hargs1, rfl, rfl, h1, r1⟩ := trodAll_cons r0
  obtain ⟨v2, vs2, d2, ds2, p2, q2, hargs2, rfl, rfl, h2, r2⟩ := trodAll_cons r1
  obtain ⟨rfl, rfl, rfl⟩ := trodAll_nil r2
  obtain rfl : args = #[v0, v1, v2] := by cases args; simp_all
  obtain ⟨rfl, rfl⟩ := trodVars_none hV
  have k0 := h0
  have lt0 : ∀ x ∈ p0, x.block < W.heap.size := by obtain ⟨m, hm⟩ := k0; exact DataW.trod_lt m _ _ _ hm
  have k1 := h1
  have lt1 : ∀ x ∈ p1, x.block < W.heap.size := by obtain ⟨m, hm⟩ := k1; exact DataW.trod_lt m _ _ _ hm
  have k2 := h2
  have lt2 : ∀ x ∈ p2, x.block < W.heap.size := by obtain ⟨m, hm⟩ := k2; exact DataW.trod_lt m _ _ _ hm
  obtain ⟨x0, y0, rfl, _⟩ := Go.WideMaps.open_pair T.pair_arr Tryz.underlying3 (hval 0 22 v0 rfl rfl) k0
  obtain ⟨n1, rfl⟩ := okWide_int Tryz.underlying3 (hval 1 3 v1 rfl rfl)
  obtain ⟨n2, rfl⟩ := okWide_int Tryz.underlying3 (hval 2 3 v2 rfl rfl)
  have hglob := of_laid hL
  clear hA0 hval0
  refine (T.calls_own x0 y0 n1 n2 W hglob).mono fun e W' ⟨he, bel⟩ => ?_
  subst he
  exact ⟨_, rfl, _, _, _, [], _, [], hW', trodAll_mk1 (shut_bool Tryz.underlying4 _), (trodAll_cons_mk (Below.trod F.laid (by kernel_rfl) (of_decide_eq_true (by kernel_rfl)) k0 bel lt0) (trodAll_cons_mk (Below.trod F.laid (by kernel_rfl) (of_decide_eq_true (by kernel_rfl)) k1 bel lt1) (trodAll_cons_mk (Below.trod F.laid (by kernel_rfl) (of_decide_eq_true (by kernel_rfl)) k2 bel lt2) trodAll_mk0))), rfl, bel.frame _, fun h => by cases h⟩
theorem row_holds : Rows.AllocCallsSaid :=
  OpenClaim.holds_of_wide 10 Tryz.f10 rfl rfl rfl rfl rfl rfl rfl ⟨rfl, rfl, rfl, rfl, rfl⟩ rfl rfl rfl rfl rfl called Tryz.func10 facts
    (of_decide_eq_true (by kernel_rfl)) (by unfold Func.isWrapper; first | (rw [if_pos (by decide +kernel)]; kernel_rfl) | (rw [if_neg (by decide +kernel)]; exact ⟨rfl, rfl⟩))
    (fun os started H enc _ => lifted os started H enc)
theorem proved : Rows.AllocCallsCardSaid :=
  Claim7.holds_tied_plain_at .later [] [.data] true Rows.allocCallsCard.stood.harness false
    row_holds (fun _ h => by cases h) text (fun _ h => by cases h) allocCalls_row_tie rfl ⟨rfl, rfl⟩ F.main rfl
    (fun f fn hf hfn => by
      obtain rfl : f = 10 := Option.some.inj (called.symm.trans hf) |>.symm
      obtain rfl : fn = Tryz.f10 := (Option.some.inj (Tryz.func10.symm.trans hfn)).symm
      exact ⟨F.looks, fun j t ht => by
        rw [Tryz.params10] at ht
        have hm : t ∈ [22, 3, 3] := by simpa using Array.mem_of_getElem? ht
        have hall : ([22, 3, 3].all fun u => !Tryz.prog.wantsStandIn u) = true := by kernel_rfl
        exact (show Tryz.prog.wantsStandIn t = false by simpa using List.all_eq_true.1 hall t hm)⟩)
    goes
end Go.Proofs.YtenkdmloolbdaaaGreatDoor.allocCalls
namespace Go.Proofs.YtenkdmloolbdaaaGreatDoor
/-- The card, under a short name, for the claim. -/
theorem allocCalls_holds : Rows.AllocCallsCardSaid := allocCalls.proved
end Go.Proofs.YtenkdmloolbdaaaGreatDoor
end
