/- Plain laws of the order of nodes. -/
import Derived.Test.YtffmhpfdfcpniaaH
namespace Go.Proofs.Ytffmhpfdfcpniaa.T
open Go.RowKit Go.Sort Go.Proofs.YtffmhpfdfcpniaaW.PrintWords Go.Proofs.YtffmhpfdfcpniaaW.PrintLast Go.Proofs.YtffmhpfdfcpniaaW.PrintMore Go.Proofs.Ytffmhpfdfcpniaa.PH
set_option linter.unusedVariables false
set_option linter.unusedSimpArgs false
section
variable {α : Type} (k : α → Nat)
def bucket (lo m : Nat) (l : List α) : List α := (List.range' lo m).flatMap fun d => l.filter fun x => decide (k x = d)
theorem bucket_succ (lo m : Nat) (l : List α) : bucket k lo (m + 1) l = (l.filter fun x => decide (k x = lo)) ++ bucket k (lo + 1) m l := by
  unfold bucket; rw [List.range'_succ, List.flatMap_cons]
theorem bucket_rest (lo lo' m : Nat) (h : lo < lo') (l : List α) : bucket k lo' m (l.filter fun x => !decide (k x = lo)) = bucket k lo' m l := by
  unfold bucket
  rw [List.flatMap_def, List.flatMap_def]
  congr 1
  apply List.map_congr_left
  intro d hd
  rw [List.filter_filter]
  apply List.filter_congr
  intro x _
  have hd' := (List.mem_range'_1.1 hd).1
  by_cases h1 : k x = d
  · rw [decide_eq_true h1, Bool.true_and, decide_eq_false (by omega)]; rfl
  · rw [decide_eq_false h1, Bool.false_and]
theorem bucket_perm : ∀ (m lo : Nat) (l : List α), (∀ x ∈ l, lo ≤ k x ∧ k x < lo + m) → List.Perm (bucket k lo m l) l := by
  intro m
  induction m with
  | zero =>
    intro lo l h
    cases l with
    | nil => exact List.Perm.refl _
    | cons x l => have := h x (List.mem_cons_self ..); omega
  | succ m ih =>
    intro lo l h
    rw [bucket_succ, ← bucket_rest k lo (lo + 1) m (Nat.lt_succ_self _)]
    refine List.Perm.trans (List.Perm.append_left _ (ih (lo + 1) (l.filter fun x => !decide (k x = lo)) ?_)) (List.filter_append_perm _ _)
    intro x hx
    obtain ⟨h1, h2⟩ := List.mem_filter.1 hx
    have := h x h1
    have h3 : k x ≠ lo := by simpa using h2
    omega
theorem bucket_mem (lo m : Nat) (l : List α) (x : α) (h : x ∈ bucket k lo m l) : lo ≤ k x ∧ x ∈ l := by
  unfold bucket at h
  obtain ⟨d, h1, h2⟩ := List.mem_flatMap.1 h
  obtain ⟨h3, h4⟩ := List.mem_filter.1 h2
  have := of_decide_eq_true h4
  have := (List.mem_range'_1.1 h1).1
  exact ⟨by omega, h3⟩
theorem bucket_sorted (R : α → α → Prop) (hlt : ∀ x y, k x < k y → R x y) (l : List α) (hl : ∀ d, (l.filter fun x => decide (k x = d)).Pairwise R) : ∀ (m lo : Nat), (bucket k lo m l).Pairwise R := by
  intro m
  induction m with
  | zero => intro lo; exact List.Pairwise.nil
  | succ m ih =>
    intro lo
    rw [bucket_succ, List.pairwise_append]
    refine ⟨hl lo, ih (lo + 1), ?_⟩
    intro x hx y hy
    have h1 := of_decide_eq_true (List.mem_filter.1 hx).2
    have h2 := (bucket_mem k _ _ _ _ hy).1
    exact hlt x y (by omega)
end
/-- The order of nodes, as node a has it: as places. -/
def ordF (dist : List (List Int)) (a n : Nat) : List (Fin n) := bucket (fun b : Fin n => (dd dist a b.val).toNat) 10 246 (List.finRange n)
/-- The same as numbers. -/
def ordL (dist : List (List Int)) (a n : Nat) : List Int := (ordF dist a n).map fun b => (b.val : Int)
def cfo (dist : List (List Int)) (a n : Nat) (x y : Fin n) : Int := cfv (dd dist a x.val) (dd dist a y.val) x.val y.val
theorem cfv_lt (dx dy x y : Int) : cfv dx dy x y < 0 ↔ dx < dy ∨ (dx = dy ∧ x < y) := by
  unfold cfv Lib.compareInt
  by_cases h1 : dx < dy
  · simp [h1]
  · by_cases h2 : dx > dy
    · have : ¬ dx = dy := by omega
      simp [h1, h2, this]
    · have h3 : dx = dy := by omega
      subst h3
      by_cases h4 : x < y
      · simp [h4]
      · by_cases h5 : x > y
        · simp [h4, h5]
        · simp [h4, h5]
theorem cfo_lt (dist : List (List Int)) (a n : Nat) (x y : Fin n) : ltOf (cfo dist a n) x y = decide (dd dist a x.val < dd dist a y.val ∨ (dd dist a x.val = dd dist a y.val ∧ x.val < y.val)) := by
  unfold ltOf cfo
  rw [decide_eq_decide, cfv_lt]
  omega
theorem cfo_swo (dist : List (List Int)) (a n : Nat) : SWO (ltOf (cfo dist a n)) where
  irrefl x := by rw [cfo_lt]; simp
  trans x y z h1 h2 := by rw [cfo_lt, decide_eq_true_eq] at *; omega
  ntrans x y z h1 h2 := by rw [cfo_lt, decide_eq_false_iff_not] at *; omega
theorem cfo_tot (dist : List (List Int)) (a n : Nat) : ∀ x y, (ltOf (cfo dist a n)) x y = false → (ltOf (cfo dist a n)) y x = false → x = y := by
  intro x y h1 h2
  rw [cfo_lt, decide_eq_false_iff_not] at h1 h2
  apply Fin.ext
  omega
/-- All distances of node a lie between ten and 255. -/
def Far (dist : List (List Int)) (a n : Nat) : Prop := ∀ b, b < n → 10 ≤ dd dist a b ∧ dd dist a b ≤ 255
theorem ordF_perm (dist : List (List Int)) (a n : Nat) (h : Far dist a n) : List.Perm (ordF dist a n) (List.finRange n) := by
  unfold ordF
  apply bucket_perm
  intro x _
  have := h x.val x.isLt
  omega
theorem ordF_sort (dist : List (List Int)) (a n : Nat) (h : Far dist a n) : ((List.finRange n).mergeSort fun x y => !(ltOf (cfo dist a n)) y x) = ordF dist a n := by
  refine List.Perm.eq_of_pairwise (le := fun x y => (!(ltOf (cfo dist a n)) y x) = true) ?_ ?_ ?_ ((List.mergeSort_perm _ _).trans (ordF_perm dist a n h).symm)
  · intro x y _ _ h1 h2
    exact cfo_tot dist a n x y (by simpa using h2) (by simpa using h1)
  · apply List.pairwise_mergeSort
    · intro x y z h1 h2
      rw [Bool.not_eq_true'] at *
      exact (cfo_swo dist a n).ntrans _ _ _ h2 h1
    · intro x y
      rw [cfo_lt, cfo_lt]
      by_cases h1 : dd dist a y.val < dd dist a x.val ∨ dd dist a y.val = dd dist a x.val ∧ y.val < x.val
      · rw [decide_eq_true h1, decide_eq_false (by omega)]; rfl
      · rw [decide_eq_false h1]; rfl
  · unfold ordF
    apply bucket_sorted
    · intro x y hxy
      rw [cfo_lt, Bool.not_eq_true', decide_eq_false_iff_not]
      omega
    · intro d
      have hp : (List.finRange n).Pairwise (fun x y => x < y) := List.pairwise_lt_finRange n
      refine List.Pairwise.imp_of_mem ?_ (hp.filter _)
      intro x y hx hy hxy
      have h1 := of_decide_eq_true (List.mem_filter.1 hx).2
      have h2 := of_decide_eq_true (List.mem_filter.1 hy).2
      rw [cfo_lt, Bool.not_eq_true', decide_eq_false_iff_not]
      have h3 := h x.val x.isLt
      have h4 := h y.val y.isLt
      have : x.val < y.val := hxy
      omega
theorem ordL_len (dist : List (List Int)) (a n : Nat) (h : Far dist a n) : (ordL dist a n).length = n := by
  unfold ordL
  rw [List.length_map, (ordF_perm dist a n h).length_eq, List.length_finRange]
end Go.Proofs.Ytffmhpfdfcpniaa.T
