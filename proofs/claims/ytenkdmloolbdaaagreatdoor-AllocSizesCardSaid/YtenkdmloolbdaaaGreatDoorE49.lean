import Derived.Test.YtenkdmloolbdaaaGreatDoorRows
import Derived.Test.YtenkdmloolbdaaaGreatDoorCards
import Derived.Test.YtenkdmloolbdaaaGreatDoorTie
import Derived.Test.YtenkdmloolbdaaaGreatDoorE00
import Derived.Test.YtenkdmloolbdaaaGreatDoorE07
import Derived.Test.YtenkdmloolbdaaaGreatDoorE47
import Derived.Test.YtenkdmloolbdaaaGreatDoorE48
import Derived.WalkKit
import Derived.ProofKit
import Derived.LaidMore
import Derived.OpenShut
import Derived.ShutString
import Derived.ChangeOld
import Derived.Below
import Derived.SizedLaws
import Derived.Stop.Joined
import Derived.SevenTiedAt
import Derived.ChangeSlices
set_option linter.unusedVariables false
set_option linter.unusedSimpArgs false
set_option maxHeartbeats 8000000
set_option maxRecDepth 100000
section
namespace Go.Proofs.YtenkdmloolbdaaaGreatDoor.allocSizes
open Go.ChangeShapes Go.WideShapes Go.ChangeAt Go.RowKit
open Go.ChangeMaps (open_string shut_string)
theorem own : ownKnob Tryz.prog.godebug = none := by kernel_rfl
theorem inPlace : Tryz.prog.inPlace 4 = Rows.allocSizesRow.inPlace := by kernel_rfl
theorem unfollowed : Tryz.prog.unfollowed 4 = Rows.allocSizesRow.unfollowed := by kernel_rfl
theorem recurses : Tryz.prog.recurses 4 = Rows.allocSizesRow.recurses := by kernel_rfl
theorem named : Tryz.prog.varsNamed 4 = Rows.allocSizesRow.named := by kernel_rfl
theorem goes : false = Rows.allocSizesRow.goesBy Tryz.prog := by kernel_rfl
theorem text : Rows.allocSizesRow.wfByText (OpenSpec.ofChange Rows.allocSizesSpec) = true := by kernel_rfl
theorem facts : joinedFacts Tryz.prog 4 Tryz.f4 Rows.allocSizesSpec Rows.allocSizesRow = true := by
 unfold joinedFacts
 rw [F.laid, F.rowed, inPlace, unfollowed, recurses, named, F.keys, F.heard, F.enter, F.lifts, F.make]
 kernel_rfl
theorem called : Tryz.prog.funcNamed "messuage/messuagelaw19.AllocSizes" = some 4 := by kernel_rfl
theorem gRows : Tryz.prog.globalNamed "messuage/class.rows" = some 0 := by kernel_rfl
theorem tRows : (Tryz.prog.globals[0]?).map (·.type) = some 250 := by kernel_rfl
theorem of_laid {W : World} (h : laidMetH Tryz.prog Rows.allocSizesRow.laid W) : T.GlobR W := by
 rw [MakeChecks.laidMetH_plain _ _ _ (by kernel_rfl)] at h
 obtain ⟨ps, ⟨g0, t0, cs0, f0, p0, q0, hg0, ht0, hv0, hd0, _⟩, _⟩ := h
 obtain rfl := Option.some.inj (gRows.symm.trans hg0)
 obtain rfl := Option.some.inj (tRows.symm.trans ht0)
 exact T.glob_laid hv0 hd0
theorem door_met (os : Os) (args : Array Value) : laidMetH Tryz.prog Rows.allocSizesRow.laid ((World.doorLaid Tryz.prog 4000 os).forCall (fun _ _ => 0) ⟨#[], args, []⟩).memory :=
 laidMetH_of_parts3 (fuel := 8) (laidMet_of_run' 8 (by kernel_rfl) (by kernel_rfl)) (by kernel_rfl) (by kernel_rfl)
theorem lifted (os : Os) (started : os.Started) (H : Type) (enc : TypeId × Value → H) :
 ReturnsInHanded {} Tryz.checked os 4 .any (fun w args => (Rows.allocSizesSpec.pre enc Tryz.prog Tryz.f4 [] false w args ∧ laidMetH Tryz.prog Rows.allocSizesRow.laid w) ∧ sizedMet enc Tryz.prog Tryz.f4 (OpenSpec.ofChange Rows.allocSizesSpec) false w args)
  (Rows.allocSizesSpec.post enc Tryz.prog Tryz.f4 false true false false) := by
 refine returnsInHanded_of_change_and (C := Tryz.checked) (X := fun w _ => laidMetH Tryz.prog Rows.allocSizesRow.laid w) (fun _ _ _ hh h => h.of_heap hh) own started (by kernel_rfl) Tryz.func4
  (ChangeSpec.witness_shaped (enc := enc) (C := Tryz.checked) (os := os) (X := fun w _ => laidMetH Tryz.prog Rows.allocSizesRow.laid w) false (World.doorLaid Tryz.prog 4000 os) #[.int .i64 0, .int .i64 0] 8 rfl (World.shaped_of_RefB (by kernel_rfl) (by kernel_rfl)) (by kernel_rfl) (by kernel_rfl) (by kernel_rfl) (door_met os _)) ?_
 intro W base args ds gs before hval0 hW _ _ hL _
 have hval : ∀ (j : Nat) t v, Tryz.f4.params[j]? = some t → args[j]? = some v → Value.okWide Tryz.prog W .any base t v := hval0
 have hW' := hW
 obtain ⟨p, q, hA0, hV, rfl, hfz, hnd⟩ := hW
 have hA : DataW.TrodAll enc Tryz.prog W 0 (fun _ => true) true Tryz.f4.params.toList args.toList ds p := hA0
 rw [Tryz.params4] at hA hval
 obtain ⟨v0, vs0, d0, ds0, p0, q0, hargs0, rfl, rfl, h0, r0⟩ := trodAll_cons hA
 obtain ⟨v1, vs1, d1, ds1, p1, q1, hargs1, rfl, rfl, h1, r1⟩ := trodAll_cons r0
 obtain ⟨rfl, rfl, rfl⟩ := trodAll_nil r1
 obtain rfl : args = #[v0, v1] := by cases args; simp_all
 obtain ⟨rfl, rfl⟩ := trodVars_none hV
 have k0 := h0
 have lt0 : ∀ x ∈ p0, x.block < W.heap.size := by obtain ⟨m, hm⟩ := k0; exact DataW.trod_lt m _ _ _ hm
 have k1 := h1
 have lt1 : ∀ x ∈ p1, x.block < W.heap.size := by obtain ⟨m, hm⟩ := k1; exact DataW.trod_lt m _ _ _ hm
 obtain ⟨n0, rfl⟩ := okWide_int Tryz.underlying3 (hval 0 3 v0 rfl rfl)
 obtain ⟨n1, rfl⟩ := okWide_int Tryz.underlying3 (hval 1 3 v1 rfl rfl)
 have hglob := of_laid hL
 clear hA0 hval0
 refine (T.sizes_own n0 n1 W hglob).mono fun e W' ⟨he, bel⟩ => ?_
 subst he
 exact ⟨_, rfl, _, _, _, [], _, [], hW', trodAll_mk1 (shut_bool Tryz.underlying4 _), (trodAll_cons_mk (Below.trod F.laid (by kernel_rfl) (of_decide_eq_true (by kernel_rfl)) k0 bel lt0) (trodAll_cons_mk (Below.trod F.laid (by kernel_rfl) (of_decide_eq_true (by kernel_rfl)) k1 bel lt1) trodAll_mk0)), rfl, bel.frame _, fun h => by cases h⟩
theorem row_holds : Rows.AllocSizesSaid :=
 OpenClaim.holds_of_wide 4 Tryz.f4 rfl rfl rfl rfl rfl rfl rfl ⟨rfl, rfl, rfl, rfl, rfl⟩ rfl rfl rfl rfl rfl called Tryz.func4 facts
  (of_decide_eq_true (by kernel_rfl)) (by unfold Func.isWrapper; first | (rw [if_pos (by decide +kernel)]; kernel_rfl) | (rw [if_neg (by decide +kernel)]; exact ⟨rfl, rfl⟩))
  (fun os started H enc _ => lifted os started H enc)
theorem proved : Rows.AllocSizesCardSaid :=
 Claim7.holds_tied_plain_at .later [] [.data] true Rows.allocSizesCard.stood.harness false
  row_holds (fun _ h => by cases h) text (fun _ h => by cases h) allocSizes_row_tie rfl ⟨rfl, rfl⟩ F.main rfl
  (fun f fn hf hfn => by
   obtain rfl : f = 4 := Option.some.inj (called.symm.trans hf) |>.symm
   obtain rfl : fn = Tryz.f4 := (Option.some.inj (Tryz.func4.symm.trans hfn)).symm
   exact ⟨F.looks, fun j t ht => by
    rw [Tryz.params4] at ht
    have hm : t ∈ [3, 3] := by simpa using Array.mem_of_getElem? ht
    have hall : ([3, 3].all fun u => !Tryz.prog.wantsStandIn u) = true := by kernel_rfl
    exact (show Tryz.prog.wantsStandIn t = false by simpa using List.all_eq_true.1 hall t hm)⟩)
  goes
end Go.Proofs.YtenkdmloolbdaaaGreatDoor.allocSizes
namespace Go.Proofs.YtenkdmloolbdaaaGreatDoor
theorem allocSizes_holds : Rows.AllocSizesCardSaid := allocSizes.proved
end Go.Proofs.YtenkdmloolbdaaaGreatDoor
end
