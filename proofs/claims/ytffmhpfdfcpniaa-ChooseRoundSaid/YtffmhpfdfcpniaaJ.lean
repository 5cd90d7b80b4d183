/- Sorting the nodes. -/
import Derived.Test.YtffmhpfdfcpniaaI
import Derived.Sort.OwnSortedInts
namespace Go.Proofs.Ytffmhpfdfcpniaa.T
open Go.RowKit Go.Sort Go.Proofs.YtffmhpfdfcpniaaW.PrintWords Go.Proofs.YtffmhpfdfcpniaaW.PrintLast Go.Proofs.YtffmhpfdfcpniaaW.PrintMore Go.Proofs.Ytffmhpfdfcpniaa.PH
set_option linter.unusedVariables false
set_option linter.unusedSimpArgs false
theorem putRow_map {α : Type} [Inhabited α] (f : α → Int) (w : World) (g : Nat) (l : List α) : putRow (fun x => Value.int .i64 (f x)) w g 0 l.toArray = putRow (Value.int .i64) w g 0 (l.map f).toArray := by
  unfold putRow
  congr 1
  funext c
  unfold putCells
  apply Array.ext
  · simp
  · intro i h1 h2
    simp only [Array.getElem_mapIdx, List.size_toArray, List.length_map, Nat.sub_zero, Nat.zero_le, Nat.zero_add, true_and]
    by_cases h : i < l.length
    · rw [if_pos h, if_pos h]
      rw [getElem!_pos l.toArray i (by simpa using h), getElem!_pos (l.map f).toArray i (by simpa using h)]
      simp
    · rw [if_neg h, if_neg h]
def ids (n : Nat) : List Int := (List.finRange n).map fun b => (b.val : Int)
set_option maxHeartbeats 1000000 in
theorem sort_own (n a p rb ro cc g cap : Nat) (cur : Array Value) (dist : List (List Int)) (W : World) (hn : 1 ≤ n) (h8 : n ≤ 8) (hfar : Far dist a n) (hg : W.heap[g]? = some (.cells cur 3 (0, 0))) (ht : cur.toList.take n = (ids n).map (Value.int .i64))
    (hp : W.cell? ⟨p, 0, none⟩ = some (.slice (some ⟨rb, ro, none⟩) n cc)) (hpg : p ≠ g) (hpl : p < W.heap.size) (hrow : ∀ j, j < n → W.cell? ⟨rb, ro + j, none⟩ = some (.int .i64 (dd dist a j))) (hrb : rb ≠ g) (hrl : rb < W.heap.size) :
    Calls Try.prog 31 #[.slice (some ⟨g, 0, none⟩) n cap, .func (.func 32) #[] #[.pointer (some ⟨p, 0, none⟩)]] W fun e w' => e = .returned (.tuple #[]) ∧ ∃ m os, w' = grow (putRow (Value.int .i64) (Sort.ahead W m) g 0 (ordL dist a n).toArray) os := by
  haveI : Inhabited (Fin n) := ⟨⟨0, hn⟩⟩
  have eg : ∀ args w, (callFunc 32 args).run Try.prog w = .ok (.enter 32 args) w := enters_of Try.func32 (by kernel_rfl) rfl
  have hgl : g < W.heap.size := (Array.getElem?_eq_some_iff.1 hg).1
  have hsz : (List.finRange n).toArray.size = n := by simp
  have hH0 : Holds (Value.int .i64) W g 0 (ids n).toArray := Go.holds_of_blockI hg (by unfold ids; rw [List.length_map, List.length_finRange]; exact ht)
  have hH : Holds (fun b : Fin n => Value.int .i64 (b.val : Int)) W g 0 (List.finRange n).toArray := by
    intro j hj
    have hj' : j < n := by rw [hsz] at hj; exact hj
    obtain ⟨h1, h2⟩ := hH0 j (by unfold ids; simpa using hj')
    refine ⟨?_, h2⟩
    rw [h1]
    congr 2
    rw [getElem!_pos (ids n).toArray j (by unfold ids; simpa using hj'), getElem!_pos (List.finRange n).toArray j (by simpa using hj')]
    unfold ids
    simp
  have hcon := Any.slices_SortFunc_total Try.laySort (fun b : Fin n => Value.int .i64 (b.val : Int)) (fun _ => rfl) (cfo dist a n) (cfo_swo dist a n) 32 #[.pointer (some ⟨p, 0, none⟩)] g 0 cap (List.finRange n).toArray W eg ?_ hH hgl (by rw [hsz]; omega) (cfo_tot dist a n)
  · rw [hsz] at hcon
    change Calls Try.prog 31 _ _ _ at hcon
    refine hcon.mono ?_
    rintro e w' ⟨he, m, os, hw⟩
    refine ⟨he, m, os, ?_⟩
    rw [hw, show (List.finRange n).toArray.toList = List.finRange n from rfl, ordF_sort dist a n hfar]
    unfold sortWorld ordL
    rw [putRow_map]
  · intro m os dk hdk x y
    refine (clos_own p rb ro n cc x.val y.val (dd dist a x.val) (dd dist a y.val) _ x.isLt y.isLt ?_ ?_ ?_).mono ?_
    · unfold sortWorld
      rw [cell?_grow _ _ _ (by rw [size_putRow]; exact hpl), cell?_putRow_other _ _ g 0 _ _ (Or.inl hpg)]
      exact hp
    · unfold sortWorld
      rw [cell?_grow _ _ _ (by rw [size_putRow]; exact hrl), cell?_putRow_other _ _ g 0 _ _ (Or.inl hrb)]
      exact hrow x.val x.isLt
    · unfold sortWorld
      rw [cell?_grow _ _ _ (by rw [size_putRow]; exact hrl), cell?_putRow_other _ _ g 0 _ _ (Or.inl hrb)]
      exact hrow y.val y.isLt
    · rintro e w' ⟨he, q, os', hw⟩
      exact ⟨he, q, os', hw⟩
end Go.Proofs.Ytffmhpfdfcpniaa.T
