import Derived.Test.YtenkdmloolbdaaaGreatDoorE05
import Derived.Test.YtenkdmloolbdaaaGreatDoorE06
import Derived.Sort.OwnSortedInts
set_option linter.unusedVariables false
set_option linter.unusedSimpArgs false
set_option maxHeartbeats 8000000
set_option maxRecDepth 100000
section
namespace Go.Proofs.YtenkdmloolbdaaaGreatDoor.T
open Go.RowKit Go.Maps Go.Sort Go.WideShapes Go.Proofs.YtenkdmloolbdaaaGreatDoorW.PrintWords Go.Proofs.YtenkdmloolbdaaaGreatDoorW.PrintLast Go.Proofs.YtenkdmloolbdaaaGreatDoorW.PrintMore
theorem sort_ints (base g cap : Nat) (l : List Int) (w : World) (h : w.ownsRow base 3 1 (.slice (some ⟨g, 0, none⟩) l.length cap) l.length (nums .i64 l)) (hl : l.length < 1000000) :
 Calls Tryz.prog 92 #[.slice (some ⟨g, 0, none⟩) l.length cap] w fun e w' => e = .returned (.tuple #[]) ∧ w'.ownsRow base 3 1 (.slice (some ⟨g, 0, none⟩) l.length cap) l.length (nums .i64 (l.mergeSort fun x y => decide (x ≤ y))) ∧ w.grownBy w' (some g) := by
 obtain ⟨h0, ⟨hv, _⟩ | ⟨g', cap', cur, hv, h1, h2, h3, h4, h5, h6⟩⟩ := h
 ·exact absurd hv (by simp)
 ·obtain ⟨ha, _, rfl⟩ := Value.slice.inj hv
  obtain rfl : g = g' := by injection ha with ha; injection ha
  have hc := Any.slices_Sort_int (P := Tryz.prog) Tryz.lays189 g 0 cap l w (holds_of_blockI h2 (by rw [Nat.mul_one] at h6; exact h6)) ((Array.getElem?_eq_some_iff.1 h2).1) (by omega)
  refine hc.mono ?_
  rintro e w' ⟨rfl, nn, os, rfl⟩
  exact ⟨rfl, ownsRow_sortedI (by simp) h1 h2 h3 h4 h5, grownBy_sortedI _⟩
instance : SortI := ⟨fun base g cap l w h hl => sort_ints base g cap l w h hl⟩
end Go.Proofs.YtenkdmloolbdaaaGreatDoor.T
end
