/- Policies, choose.Node and the document's Node, walked; chooses. -/
import Derived.Test.YtffmhpfdfcpniaaQ
import Derived.Test.YtffmhpfdfcpniaaQ5
import Derived.Test.YtffmhpfdfcpniaaQ2
namespace Go.Proofs.Ytffmhpfdfcpniaa.T
open Go.RowKit Go.Proofs.YtffmhpfdfcpniaaW.PrintWords Go.Proofs.YtffmhpfdfcpniaaW.PrintLast Go.Proofs.YtffmhpfdfcpniaaW.PrintMore Go.Proofs.Ytffmhpfdfcpniaa.PH
set_option linter.unusedVariables false
set_option linter.unusedSimpArgs false
theorem set_block {w : World} {b i : Nat} {cs : Array Value} {t : TypeId} {fr : Nat × Nat} (h : w.heap[b]? = some (.cells cs t fr)) (v : Value) : (w.setCell ⟨b, i, none⟩ v).heap[b]? = some (.cells (cs.setIfInBounds i v) t fr) := by
  unfold World.setCell
  rw [Array.getElem?_modify]
  simp [h]
/-- Of the set of all nodes the order is the same. -/
theorem inL_all (dist : List (List Int)) (a n : Nat) (h8 : n ≤ 8) : inL 255 (ordL dist a n) = ordL dist a n := by
  unfold inL
  rw [List.filter_eq_self]
  intro x hx
  unfold ordL at hx
  obtain ⟨b, _, rfl⟩ := List.mem_map.1 hx
  have hb := b.isLt
  have hall : ∀ k : Nat, k < 8 → hasB 255 (k : Int) = true := by decide +kernel
  exact hall b.val (by omega)
theorem ordL_mem (dist : List (List Int)) (a n : Nat) (h : Far dist a n) (i : Nat) (hi : i < n) : (i : Int) ∈ ordL dist a n := by
  unfold ordL
  exact List.mem_map.2 ⟨⟨i, hi⟩, (ordF_perm dist a n h).mem_iff.2 (List.mem_finRange _), rfl⟩
theorem ordL_of_mem (dist : List (List Int)) (a n : Nat) (x : Int) (hx : x ∈ ordL dist a n) : ∃ i : Nat, x = (i : Int) ∧ i < n := by
  unfold ordL at hx
  obtain ⟨b, _, rfl⟩ := List.mem_map.1 hx
  exact ⟨b.val, rfl, b.isLt⟩
/-- No node that may is nearer than the first one of the order that may. -/
theorem near_none (dist : List (List Int)) (a n : Nat) (h : Far dist a n) (may : List Bool) (ho : nearR may (ordL dist a n) = none) (i : Nat) (hi : i < n) : okB may (i : Int) = false := by
  unfold nearR at ho
  rw [List.find?_eq_none] at ho
  have := ho _ (ordL_mem dist a n h i hi)
  simpa using this
theorem near_some (dist : List (List Int)) (a n : Nat) (h : Far dist a n) (may : List Bool) (x : Int) (ho : nearR may (ordL dist a n) = some x) : ∃ q : Nat, x = (q : Int) ∧ q < n ∧ okB may x = true ∧ ∀ i, i < n → okB may (i : Int) = true → dd dist a q < dd dist a i ∨ (dd dist a q = dd dist a i ∧ q ≤ i) := by
  unfold nearR at ho
  rw [List.find?_eq_some_iff_append] at ho
  obtain ⟨hy, l1, l2, hl, hno⟩ := ho
  have hmem : x ∈ ordL dist a n := by rw [hl]; simp
  obtain ⟨q, rfl, hq⟩ := ordL_of_mem dist a n x hmem
  refine ⟨q, rfl, hq, hy, fun i hi hoki => ?_⟩
  have hpw : (ordL dist a n).Pairwise (fun x y => dd dist a x.toNat < dd dist a y.toNat ∨ (dd dist a x.toNat = dd dist a y.toNat ∧ x ≤ y)) := by
    unfold ordL
    rw [List.pairwise_map, ← ordF_sort dist a n h]
    refine List.Pairwise.imp ?_ (List.pairwise_mergeSort (le := fun x y => !(Go.Proofs.ltOf (cfo dist a n)) y x) ?_ ?_ _)
    · intro x y hxy
      rw [cfo_lt, Bool.not_eq_true', decide_eq_false_iff_not] at hxy
      rw [Int.toNat_natCast, Int.toNat_natCast]
      omega
    · intro x y z h1 h2
      rw [Bool.not_eq_true'] at *
      exact (cfo_swo dist a n).ntrans _ _ _ h2 h1
    · intro x y
      rw [cfo_lt, cfo_lt]
      by_cases h1 : dd dist a y.val < dd dist a x.val ∨ dd dist a y.val = dd dist a x.val ∧ y.val < x.val
      · rw [decide_eq_true h1, decide_eq_false (by omega)]; rfl
      · rw [decide_eq_false h1]; rfl
  have him := ordL_mem dist a n h i hi
  rw [hl] at him hpw
  rcases List.mem_append.1 him with h1 | h1
  · have := hno _ h1
    rw [hoki] at this
    simp at this
  · rcases List.mem_cons.1 h1 with h2 | h2
    · have : i = q := by omega
      subst this
      exact .inr ⟨rfl, Nat.le_refl _⟩
    · have h3 := (List.pairwise_cons.1 (List.pairwise_append.1 hpw).2.1).1 _ h2
      rw [Int.toNat_natCast, Int.toNat_natCast] at h3
      omega
theorem C_take' {α : Type} {k : Kd α} {w : World} {A : Option Addr} {xs : List α} (h : k.C w A xs.length xs) (m : Nat) : k.C w A (xs.take m).length (xs.take m) := by
  rcases Nat.lt_or_ge xs.length m with h1 | h1
  · rw [List.take_of_length_le (by omega)]; exact h
  · exact Kd.C_take h h1
theorem below_store {B0 b : Nat} {w0 w : World} (h : RowKit.Below B0 w0 w) (hb : B0 ≤ b) (v0 v1 v2 v3 : Value) : RowKit.Below B0 w0 ((((w.setCell ⟨b, 0, none⟩ v0).setCell ⟨b, 1, none⟩ v1).setCell ⟨b, 2, none⟩ v2).setCell ⟨b, 3, none⟩ v3) :=
  RowKit.Below.setCell (p := ⟨b, 3, none⟩) (RowKit.Below.setCell (p := ⟨b, 2, none⟩) (RowKit.Below.setCell (p := ⟨b, 1, none⟩) (RowKit.Below.setCell (p := ⟨b, 0, none⟩) h hb _) hb _) hb _) hb _
theorem ordL_sorted (dist : List (List Int)) (a n : Nat) (h : Far dist a n) : (ordL dist a n).Pairwise (fun x y => dd dist a x.toNat < dd dist a y.toNat ∨ (dd dist a x.toNat = dd dist a y.toNat ∧ x < y)) := by
  have hnd : (ordF dist a n).Pairwise (fun x y => x ≠ y) := by
    have h1 : (List.finRange n).Nodup := List.Pairwise.imp (fun {x y} hxy => (Fin.ne_of_lt hxy)) (List.pairwise_lt_finRange n)
    exact ((ordF_perm dist a n h).nodup_iff).2 h1
  have hso : (ordF dist a n).Pairwise (fun x y => (!(Go.Proofs.ltOf (cfo dist a n)) y x) = true) := by
    rw [← ordF_sort dist a n h]
    refine List.pairwise_mergeSort (le := fun x y => !(Go.Proofs.ltOf (cfo dist a n)) y x) ?_ ?_ _
    · intro x y z h1 h2
      rw [Bool.not_eq_true'] at *
      exact (cfo_swo dist a n).ntrans _ _ _ h2 h1
    · intro x y
      rw [cfo_lt, cfo_lt]
      by_cases h1 : dd dist a y.val < dd dist a x.val ∨ dd dist a y.val = dd dist a x.val ∧ y.val < x.val
      · rw [decide_eq_true h1, decide_eq_false (by omega)]; rfl
      · rw [decide_eq_false h1]; rfl
  unfold ordL
  rw [List.pairwise_map]
  refine List.Pairwise.imp ?_ (hnd.and hso)
  rintro x y ⟨h1, h2⟩
  rw [cfo_lt, Bool.not_eq_true', decide_eq_false_iff_not] at h2
  have h3 : x.val ≠ y.val := fun e => h1 (Fin.ext e)
  rw [Int.toNat_natCast, Int.toNat_natCast]
  omega
/-- The nodes of an order one by one. -/
theorem ordL_get (dist : List (List Int)) (a n : Nat) (h : Far dist a n) (i : Nat) (hi : i < n) : ∃ q : Nat, (ordL dist a n)[i]? = some (q : Int) ∧ q < n := by
  have hl := ordL_len dist a n h
  have hg : i < (ordL dist a n).length := by omega
  obtain ⟨q, e, hq⟩ := ordL_of_mem dist a n _ (List.getElem_mem hg)
  exact ⟨q, by rw [List.getElem?_eq_getElem hg, e], hq⟩
theorem ordL_new (dist : List (List Int)) (a n : Nat) (h : Far dist a n) (i : Nat) (x : Int) (hx : (ordL dist a n)[i]? = some x) : x ∉ (ordL dist a n).take i := by
  intro hm
  have hp := ordL_sorted dist a n h
  obtain ⟨j, hj, e⟩ := List.mem_iff_getElem.1 hm
  rw [List.length_take] at hj
  rw [List.getElem_take] at e
  obtain ⟨hi, e2⟩ := List.getElem?_eq_some_iff.1 hx
  have := List.pairwise_iff_getElem.1 hp j i (by omega) hi (by omega)
  rw [e, e2] at this
  omega
/-- Which nodes were seen. -/
def seenC (l : List Int) (i : Nat) : Array Value := ((List.range 8).map fun (x : Nat) => Value.bool (decide ((x : Int) ∈ l.take i))).toArray
theorem seen_set (l : List Int) (i q : Nat) (hq : l[i]? = some (q : Int)) (h8 : q < 8) : (seenC l i).setIfInBounds q (.bool true) = seenC l (i + 1) := by
  have ht : l.take (i + 1) = l.take i ++ [(q : Int)] := by rw [List.take_add_one, hq]; rfl
  unfold seenC
  rw [ht]
  rw [List.setIfInBounds_toArray]
  congr 1
  apply List.ext_getElem
  · simp
  · intro j h1 h2
    rw [List.getElem_set]
    simp only [List.getElem_map, List.getElem_range, List.mem_append, List.mem_singleton]
    by_cases e : q = j
    · subst e; simp
    · have : ¬ ((j : Int) = (q : Int)) := by omega
      simp [e, this]
/-- The node itself is the first one. -/
theorem ordL_first (dist : List (List Int)) (a n : Nat) (ha : a < n) (h : Far dist a n) (hfit : ∀ b, b < n → fit dist a b) : (ordL dist a n)[0]? = some (a : Int) := by
  have hl := ordL_len dist a n h
  obtain ⟨q, e, hq⟩ := ordL_get dist a n h 0 (by omega)
  obtain ⟨i, hi, ei⟩ := List.mem_iff_getElem.1 (ordL_mem dist a n h a ha)
  rcases Nat.eq_zero_or_pos i with h0 | h0
  · subst h0; rw [List.getElem?_eq_getElem hi, ei]
  · exfalso
    obtain ⟨h00, e0⟩ := List.getElem?_eq_some_iff.1 e
    have := List.pairwise_iff_getElem.1 (ordL_sorted dist a n h) 0 i h00 hi h0
    rw [e0, ei, Int.toNat_natCast, Int.toNat_natCast] at this
    have f1 := hfit a ha
    have f2 := hfit q hq
    unfold fit at f1 f2
    rw [if_pos rfl] at f1
    by_cases hqa : a = q
    · subst hqa; omega
    · rw [if_neg hqa] at f2; omega
theorem seen_none (l : List Int) : seenC l 0 = #[.bool false, .bool false, .bool false, .bool false, .bool false, .bool false, .bool false, .bool false] := by
  unfold seenC
  rw [List.take_zero]
  rfl
theorem R_open {w : World} {t base q : Nat} {ok : Nat → Prop} {v : Value} {xs : List Int} (h : Kd.R (Kd.int .i64) t w base ok v xs) (hq : xs.length = q) : ∃ A c, v = .slice A q c ∧ q ≤ c ∧ Kd.C (Kd.int .i64) w A q xs := by
  subst hq
  exact Kd.R_reads h
end Go.Proofs.Ytffmhpfdfcpniaa.T
namespace Go.Proofs.Ytffmhpfdfcpniaa.T
open Go.RowKit Go.Proofs.YtffmhpfdfcpniaaW.PrintWords Go.Proofs.YtffmhpfdfcpniaaW.PrintLast Go.Proofs.YtffmhpfdfcpniaaW.PrintMore Go.Proofs.Ytffmhpfdfcpniaa.PH
set_option linter.unusedVariables false
set_option linter.unusedSimpArgs false
/-- A set's nodes, rising. -/
def setL (s : Int) : List Int := inL s [0, 1, 2, 3, 4, 5, 6, 7]
/-- The set of the first so many nodes. -/
def allS (n : Int) : Int := ((shl .u8 1 n) - 1) % 256
theorem list_all : ∀ s : Nat, s < 256 → nodeset_List.f 20 (s : Int) = some (setL (s : Int)) := by decide +kernel
theorem list_all19 : ∀ s : Nat, s < 256 → nodeset_List.f 19 (s : Int) = some (setL (s : Int)) := by decide +kernel
theorem rlist_all18 : ∀ s : Nat, s < 256 → messuageref01_List.f 18 (s : Int) = some (setL (s : Int)) := by decide +kernel
theorem rlist_all : ∀ s : Nat, s < 256 → messuageref01_List.f 20 (s : Int) = some (setL (s : Int)) := by decide +kernel
theorem setL_last : ∀ s : Nat, s < 256 → 0 < s → ∀ n : Nat, n < 9 → 0 < n → (decide (Go.bits .andNot .u8 (s : Int) (allS n) = 0) = !decide (rd (setL s) (wrap64 (((setL s).length : Int) - 1)) ≥ (n : Int))) := by decide +kernel
theorem setL_pos : ∀ s : Nat, s < 256 → 0 < s → 0 < (setL s).length := by decide +kernel
theorem setL_below : ∀ s : Nat, s < 256 → ∀ n : Nat, n < 9 → Go.bits .andNot .u8 (s : Int) (allS n) = 0 → ∀ x ∈ setL s, x < (n : Int) := by decide +kernel
theorem perm_all : ∀ n : Nat, n < 9 → messuageref10_Permitted.l0 20 (n : Int) 0 0 = some (allS n) := by decide +kernel
theorem setL_len (s : Int) : (setL s).length ≤ 8 := List.length_filter_le _ _
theorem setL_nonneg (s : Int) : ∀ x ∈ setL s, 0 ≤ x := by
  intro x hx
  have := (List.mem_filter.1 hx).1
  simp at this
  omega
/-- The first one behind c, going round. -/
def nextL (l : List Int) (c : Int) : Int × Bool := match l.find? (fun x => decide (x > c)) with
  | some x => (x, true)
  | none => if l.length = 0 then (0, false) else (rd l 0, true)
theorem next_l0 (c : Int) (l : List Int) (hl : l.length ≤ 1000) : ∀ (m i k : Nat), l.length - i = m → i ≤ l.length → m + 1 ≤ k →
    nodeset_Next.l0 k c l l (l.length : Int) (i : Int) = some (match (l.drop i).find? (fun x => decide (x > c)) with | some x => (x, true) | none => if l.length = 0 then (0, false) else (rd l 0, true)) := by
  intro m
  induction m with
  | zero =>
    intro i k h1 h2 h3
    obtain ⟨k, rfl⟩ : ∃ k', k = k' + 1 := ⟨k - 1, by omega⟩
    obtain rfl : i = l.length := by omega
    unfold nodeset_Next.l0
    rw [if_neg (by omega), List.drop_length]
    by_cases h0 : l.length = 0
    · simp [h0]
    · rw [if_neg (by omega), if_pos (by omega)]
      simp [h0]
  | succ m ih =>
    intro i k h1 h2 h3
    obtain ⟨k, rfl⟩ : ∃ k', k = k' + 1 := ⟨k - 1, by omega⟩
    have hi : i < l.length := by omega
    unfold nodeset_Next.l0
    rw [if_pos (by omega), if_pos (by omega), if_pos (by omega), List.drop_eq_getElem_cons hi, List.find?_cons]
    have hr : rd l (i : Int) = l[i] := by unfold rd; rw [Int.toNat_natCast, List.getD_eq_getElem?_getD, List.getElem?_eq_getElem hi]; rfl
    rw [hr]
    by_cases hg : l[i] > c
    · rw [if_pos hg, decide_eq_true hg]
    · rw [if_neg hg, decide_eq_false hg, show wrap64 ((i : Int) + 1) = ((i + 1 : Nat) : Int) from by rw [wrap_s _ (by omega) (by omega)]; omega]
      exact ih (i + 1) k (by omega) (by omega) (by omega)
theorem rnext_l0 (c : Int) (l : List Int) (hl : l.length ≤ 1000) : ∀ (m i k : Nat), l.length - i = m → i ≤ l.length → m + 1 ≤ k →
    messuageref01_Next.l0 k c l (i : Int) = some (match (l.drop i).find? (fun x => decide (x > c)) with | some x => (x, true) | none => if l.length = 0 then (0, false) else (rd l 0, true)) := by
  intro m
  induction m with
  | zero =>
    intro i k h1 h2 h3
    obtain ⟨k, rfl⟩ : ∃ k', k = k' + 1 := ⟨k - 1, by omega⟩
    obtain rfl : i = l.length := by omega
    unfold messuageref01_Next.l0
    rw [if_neg (by omega), List.drop_length]
    by_cases h0 : l.length = 0
    · simp [h0]
    · rw [if_neg (by omega), if_pos (by omega)]
      simp [h0]
  | succ m ih =>
    intro i k h1 h2 h3
    obtain ⟨k, rfl⟩ : ∃ k', k = k' + 1 := ⟨k - 1, by omega⟩
    have hi : i < l.length := by omega
    unfold messuageref01_Next.l0
    rw [if_pos (by omega), if_pos (by omega), List.drop_eq_getElem_cons hi, List.find?_cons]
    have hr : rd l (i : Int) = l[i] := by unfold rd; rw [Int.toNat_natCast, List.getD_eq_getElem?_getD, List.getElem?_eq_getElem hi]; rfl
    rw [hr]
    by_cases hg : l[i] > c
    · rw [if_pos hg, decide_eq_true hg]
    · rw [if_neg hg, decide_eq_false hg, show wrap64 ((i : Int) + 1) = ((i + 1 : Nat) : Int) from by rw [wrap_s _ (by omega) (by omega)]; omega]
      exact ih (i + 1) k (by omega) (by omega) (by omega)
theorem next_f (s : Nat) (hs : s < 256) (c : Int) : nodeset_Next.f 20 (s : Int) c = some (nextL (setL s) c) := by
  unfold nodeset_Next.f
  rw [list_all s hs, Option.bind_some]
  have := setL_len s
  exact next_l0 c (setL s) (by omega) _ 0 20 rfl (Nat.zero_le _) (by omega)
theorem next_f19 (s : Nat) (hs : s < 256) (c : Int) : nodeset_Next.f 19 (s : Int) c = some (nextL (setL s) c) := by
  unfold nodeset_Next.f
  rw [list_all19 s hs, Option.bind_some]
  have := setL_len s
  exact next_l0 c (setL s) (by omega) _ 0 19 rfl (Nat.zero_le _) (by omega)
theorem rnext_f (s : Nat) (hs : s < 256) (c : Int) : messuageref01_Next.f 20 (s : Int) c = some (nextL (setL s) c) := by
  unfold messuageref01_Next.f
  rw [rlist_all s hs, Option.bind_some]
  have := setL_len s
  exact rnext_l0 c (setL s) (by omega) _ 0 20 rfl (Nat.zero_le _) (by omega)
theorem nextL_mem (l : List Int) (c : Int) (h : 0 < l.length) : (nextL l c).1 ∈ l := by
  unfold nextL
  cases hf : l.find? (fun x => decide (x > c)) with
  | some x => exact List.mem_of_find?_eq_some hf
  | none =>
    simp only
    rw [if_neg (by omega)]
    unfold rd
    rw [List.getD_eq_getElem?_getD]
    obtain ⟨a, t, rfl⟩ := List.exists_cons_of_length_pos h
    simp
/-- What a policy's check answers, on 1 to 8 nodes. -/
def polR (m s nd n : Int) : Int := if m = 0 then 0 else if m = 1 ∨ m = 2 then (if s = 0 then 1 else if Go.bits .andNot .u8 s (allS n) = 0 then 0 else 10) else if m = 3 then (if nd < 0 ∨ nd ≥ n then 10 else 0) else 1
def permR (m s n : Int) : Int := if m = 1 then s else allS n
def startR (m s nd own c : Int) : Int × Int := if m = 2 then ((nextL (setL s) c).1, (nextL (setL s) c).1) else if m = 3 then (nd, c) else (own, c)
theorem all_f (n : Nat) (hn : n ≤ 8) : nodeset_All.f (n : Int) = some (allS n, 0) := by
  unfold nodeset_All.f
  rw [if_neg (by omega), if_neg (by omega), if_pos (by omega)]; rfl
theorem pcheck_f (m s nd : Int) (n : Nat) (h1 : 1 ≤ n) (h8 : n ≤ 8) : policy_Check.f 20 m s nd (n : Int) = some (polR m s nd n) := by
  have hsets : policy_sets.f s (n : Int) = some (if s = 0 then 1 else if Go.bits .andNot .u8 s (allS n) = 0 then 0 else 10) := by
    unfold policy_sets.f
    rw [all_f n h8, Option.bind_some]
    simp only [if_true]
    split
    · rfl
    · split <;> rfl
  unfold policy_Check.f polR
  rw [if_neg (by omega), decide_eq_false (by omega)]
  simp only [policy_Check.j0, policy_Check.j1, hsets, Option.bind_some]
  by_cases m0 : m = 0
  · simp [m0]
  · by_cases m1 : m = 1
    · simp [m1]
    · by_cases m2 : m = 2
      · simp [m2]
      · by_cases m3 : m = 3
        · subst m3
          by_cases d0 : nd < 0
          · simp [d0]
          · by_cases dn : (n : Int) ≤ nd <;> simp [d0, dn]
        · have e1 : (m == 1) = false := by simpa using m1
          have e2 : (m == 2) = false := by simpa using m2
          simp [m0, m1, m2, m3]
theorem rcheck_f (m : Int) (s : Nat) (hs : s < 256) (nd : Int) (n : Nat) (h1 : 1 ≤ n) (h8 : n ≤ 8) : messuageref10_Check.f 20 m (s : Int) nd (n : Int) = some (polR m s nd n) := by
  have hle := setL_len s
  unfold messuageref10_Check.f polR
  rw [if_neg (by omega), decide_eq_false (by omega)]
  simp only [messuageref10_Check.j0, messuageref10_Check.j1]
  rw [rlist_all18 s hs]
  simp only [Option.bind_some, Bool.false_eq_true, if_false]
  have hw : wrap64 (((setL s).length : Int) - 1) = ((setL s).length : Int) - 1 := wrap_s _ (by omega) (by omega)
  by_cases m0 : m = 0
  · simp [m0]
  · by_cases m12 : m = 1 ∨ m = 2
    · have hm3 : ¬ m = 3 := by omega
      rw [if_neg (by omega), if_neg (by omega), if_neg m0, if_pos m12]
      have key : (if ((s : Int) == 0) = true then some (1 : Int) else if 0 ≤ wrap64 (((setL s).length : Int) - 1) then (if wrap64 (((setL s).length : Int) - 1) < ((setL s).length : Int) then (if rd (setL s) (wrap64 (((setL s).length : Int) - 1)) ≥ (n : Int) then some 10 else some 0) else none) else none) = some (if (s : Int) = 0 then 1 else if Go.bits .andNot .u8 (s : Int) (allS n) = 0 then 0 else 10) := by
        by_cases hs0 : s = 0
        · subst hs0; rfl
        · have hp := setL_pos s hs (by omega)
          have hlast := setL_last s hs (by omega) n (by omega) (by omega)
          have e0 : ((s : Int) == 0) = false := by simpa using hs0
          have es : ¬ ((s : Int) = 0) := by omega
          rw [e0, if_neg (by simp), if_pos (by omega), if_pos (by omega)]
          by_cases hr : rd (setL s) (wrap64 (((setL s).length : Int) - 1)) ≥ (n : Int)
          · rw [decide_eq_true hr] at hlast
            rw [if_pos hr, if_neg es, if_neg (by simpa using hlast)]
          · rw [decide_eq_false hr] at hlast
            rw [if_neg hr, if_neg es, if_pos (by simpa using hlast)]
      rw [← key]
      rcases m12 with rfl | rfl
      · simp
      · simp
    · by_cases m3 : m = 3
      · subst m3
        by_cases d0 : nd < 0
        · simp [d0]
        · by_cases dn : (n : Int) ≤ nd <;> simp [d0, dn]
      · by_cases hn : m < 0
        · simp [hn, m0, m12, m3]
        · have : 3 < m := by omega
          simp [hn, m0, m12, m3, this]
theorem pperm_f (m s nd : Int) (n : Nat) (h1 : 1 ≤ n) (h8 : n ≤ 8) : policy_Permitted.f 20 m s nd (n : Int) = some (if polR m s nd n = 0 then permR m s n else 0, polR m s nd n) := by
  unfold policy_Permitted.f permR
  rw [pcheck_f m s nd n h1 h8, Option.bind_some, all_f n h8]
  by_cases h0 : polR m s nd n = 0
  · rw [if_pos h0, if_pos h0]
    by_cases hm : m = 1
    · simp [hm, ← h0]
    · simp [hm, h0]
  · rw [if_neg h0, if_neg h0]
theorem rperm_f (m s nd : Int) (n : Nat) (h8 : n ≤ 8) : messuageref10_Permitted.f 20 m s nd (n : Int) = some (permR m s n) := by
  unfold messuageref10_Permitted.f permR
  rw [perm_all n (by omega)]
  split <;> rfl
theorem pstart_f (m : Int) (s : Nat) (hs : s < 256) (nd : Int) (n : Nat) (h1 : 1 ≤ n) (h8 : n ≤ 8) (own c : Int) (ho : 0 ≤ own) (hn : own < n) (h0 : polR m s nd n = 0) : policy_Start.f 20 m s nd (n : Int) own c = some ((startR m s nd own c).1, (startR m s nd own c).2, 0) := by
  unfold policy_Start.f startR
  rw [pcheck_f m s nd n h1 h8, Option.bind_some, if_pos h0, if_neg (by omega), decide_eq_false (by omega)]
  simp only [policy_Start.j0, next_f19 s hs c, Option.bind_some]
  have e : decide (own ≥ (n : Int)) = false := decide_eq_false (by omega)
  by_cases m2 : m = 2
  · simp [m2]
  · by_cases m3 : m = 3 <;> simp [m2, m3]
/-- A start is one of the machine's nodes. -/
theorem start_in (m : Int) (s : Nat) (hs : s < 256) (nd : Int) (n : Nat) (h1 : 1 ≤ n) (h8 : n ≤ 8) (own c : Int) (ho : 0 ≤ own) (hn : own < n) (h0 : polR m s nd n = 0) : 0 ≤ (startR m s nd own c).1 ∧ (startR m s nd own c).1 < n := by
  unfold startR
  unfold polR at h0
  by_cases m2 : m = 2
  · subst m2
    rw [if_neg (by omega), if_pos (by omega)] at h0
    rw [if_pos rfl]
    have hs0 : ¬ ((s : Int) = 0) := by intro e; rw [if_pos e] at h0; omega
    rw [if_neg hs0] at h0
    have hb : Go.bits .andNot .u8 (s : Int) (allS n) = 0 := by
      by_cases hb : Go.bits .andNot .u8 (s : Int) (allS n) = 0
      · exact hb
      · rw [if_neg hb] at h0; omega
    have hmem := nextL_mem (setL s) c (setL_pos s hs (by omega))
    exact ⟨setL_nonneg _ _ hmem, setL_below s hs n (by omega) hb _ hmem⟩
  · rw [if_neg m2]
    by_cases m3 : m = 3
    · subst m3
      rw [if_neg (by omega), if_neg (by omega), if_pos rfl] at h0
      rw [if_pos rfl]
      by_cases hx : nd < 0 ∨ nd ≥ n
      · rw [if_pos hx] at h0; omega
      · simp only; omega
    · rw [if_neg m3]; exact ⟨ho, hn⟩
theorem rstart_f (m : Int) (s : Nat) (hs : s < 256) (nd own c : Int) : messuageref10_Start.f 20 m s nd own c = some (startR m s nd own c) := by
  unfold messuageref10_Start.f startR
  rw [rnext_f s hs c, Option.bind_some]
  by_cases m2 : m = 2
  · simp [m2]
  · by_cases m3 : m = 3 <;> simp [m2, m3]
end Go.Proofs.Ytffmhpfdfcpniaa.T
namespace Go.Proofs.Ytffmhpfdfcpniaa.T
open Go.RowKit Go.Proofs.YtffmhpfdfcpniaaW.PrintWords Go.Proofs.YtffmhpfdfcpniaaW.PrintLast Go.Proofs.YtffmhpfdfcpniaaW.PrintMore Go.Proofs.Ytffmhpfdfcpniaa.PH
attribute [local go_sem] max2_int min2_int max_two min_two
set_option linter.unusedVariables false
set_option linter.unusedSimpArgs false
/-- A block of cells. -/
def Blk (w : World) (b : Nat) (cs : Array Value) (t : TypeId) : Prop := w.heap[b]? = some (.cells cs t (0, 0))
section
variable {w w' : World} {b : Nat} {cs : Array Value} {t : TypeId}
theorem Blk.at (h : Blk w b cs t) (i : Nat) (v : Value) (hv : cs[i]? = some v) : w.cell? ⟨b, i, none⟩ = some v := by simp only [World.cell?]; rw [show w.heap[b]? = _ from h]; exact hv
theorem Blk.fz (h : Blk w b cs t) (i : Nat) : w.frozen? ⟨b, i, none⟩ = false := by simp only [World.frozen?]; rw [show w.heap[b]? = _ from h]; simp
theorem Blk.below (h : Blk w b cs t) (hb : RowKit.Below w.heap.size w w') : Blk w' b cs t := (hb.block b (Array.getElem?_eq_some_iff.1 (show w.heap[b]? = _ from h)).1).trans h
theorem Blk.alloc (h : Blk w b cs t) (o : Obj) : Blk (w.alloc o) b cs t := h.below (below_alloc (RowKit.Below.refl _ _) _)
theorem Blk.new (w : World) (cs : Array Value) (t : TypeId) : Blk (w.alloc (.cells cs t)) w.heap.size cs t := heap_alloc_new _ _
theorem Blk.new1 (w : World) (o : Obj) (cs : Array Value) (t : TypeId) : Blk ((w.alloc o).alloc (.cells cs t)) (w.heap.size + 1) cs t := by
  have := Blk.new (w.alloc o) cs t
  rw [World.size_alloc] at this
  exact this
theorem Blk.new2 (w : World) (o o2 : Obj) (cs : Array Value) (t : TypeId) : Blk (((w.alloc o).alloc o2).alloc (.cells cs t)) (w.heap.size + 1 + 1) cs t := by
  have := Blk.new ((w.alloc o).alloc o2) cs t
  rw [World.size_alloc, World.size_alloc] at this
  exact this
theorem Blk.set (h : Blk w b cs t) (i : Nat) (v : Value) : Blk (w.setCell ⟨b, i, none⟩ v) b (cs.setIfInBounds i v) t := set_block h v
theorem Blk.other (h : Blk w b cs t) (p : Addr) (hp : b ≠ p.block) (u : Value) : Blk (w.setCell p u) b cs t := (RowKit.Below.heap_setCell w p u b hp).trans h
theorem Blk.put3 {a0 a1 a2 : Value} (h : Blk w b #[a0, a1, a2] t) (v0 v1 v2 : Value) : Blk (((w.setCell ⟨b, 0, none⟩ v0).setCell ⟨b, 1, none⟩ v1).setCell ⟨b, 2, none⟩ v2) b #[v0, v1, v2] t := ((h.set 0 v0).set 1 v1).set 2 v2
theorem below_put3 {B0 : Nat} {w0 : World} (h : RowKit.Below B0 w0 w) (hb : B0 ≤ b) (v0 v1 v2 : Value) : RowKit.Below B0 w0 (((w.setCell ⟨b, 0, none⟩ v0).setCell ⟨b, 1, none⟩ v1).setCell ⟨b, 2, none⟩ v2) :=
  RowKit.Below.setCell (p := ⟨b, 2, none⟩) (RowKit.Below.setCell (p := ⟨b, 1, none⟩) (RowKit.Below.setCell (p := ⟨b, 0, none⟩) h hb _) hb _) hb _
end
/-- All CPUs of a machine stand on its nodes. -/
theorem chk_cpus {n f : Int} {cpus : List Int} {dist : List (List Int)} (h : chk n f cpus dist = 0) : ∀ x ∈ cpus, 0 ≤ x ∧ x < n := by
  unfold chk at h
  by_cases h1 : countsB n f cpus = true
  · rw [if_pos h1] at h
    by_cases h2 : cpB n cpus = true
    · intro x hx
      unfold cpB at h2
      simp only [List.all_eq_true] at h2
      have := h2 x hx
      simp at this
      omega
    · rw [if_neg h2] at h; simp at h
  · rw [if_neg h1] at h; simp at h
/-- What choose.Node answers: the node, where the search began, the cursor, the error. -/
def chV (n f : Int) (cs : List Int) (ds : List (List Int)) (m s nd cpu cur : Int) (may : List Bool) : Int × Int × Int × Int :=
  if chk n f cs ds = 0 then (if cpu < 0 ∨ (cs.length : Int) ≤ cpu then (0, 0, 0, 11) else if polR m s nd n = 0 then
    ((nearR may (inL (permR m s n) (ordL ds (startR m s nd (rd cs cpu) cur).1.toNat n.toNat))).getD 0, (startR m s nd (rd cs cpu) cur).1, (startR m s nd (rd cs cpu) cur).2,
      if (nearR may (inL (permR m s n) (ordL ds (startR m s nd (rd cs cpu) cur).1.toNat n.toNat))).isSome = true then 0 else 5) else (0, 0, 0, polR m s nd n)) else (0, 0, 0, chk n f cs ds)
set_option maxHeartbeats 1000000 in
set_option maxRecDepth 100000 in
theorem machine_own (n f : Int) (A : Option Addr) (la ca : Nat) (B : Option Addr) (lb cb : Nat) (w : World) :
    Calls Try.prog 22 #[.agg #[.int .i64 n, .int .i64 f, .slice A la ca, .slice B lb cb]] w fun e w' => e = .returned (.agg #[.int .i64 n, .int .i64 f, .slice A la ca, .slice B lb cb]) ∧ RowKit.Below w.heap.size w w' := by
  go_enter Try.func22, Try.ntmps22
  go_wp2_with fail
  (refine bodyPost_ret (results_cell_row rfl _ _ (w.heap.size + 1) 33 #[.int .i64 n, .int .i64 f, .slice A la ca, .slice B lb cb] (0, 0) _ rfl (alloc_two _ _ _) Try.underlying33 rfl (by kernel_rfl)) rfl ?_; exact ⟨rfl, below_alloc (below_alloc (RowKit.Below.refl _ _) _) _⟩)
set_option maxHeartbeats 1000000 in
set_option maxRecDepth 100000 in
theorem tame11_own (n f : Int) (A : Option Addr) (la ca : Nat) (B : Option Addr) (lb cb : Nat) (ma mb : Nat) (w : World) (hma : min la 20 = ma) (hmb : min lb 10 = mb) (hca : la ≤ ca) (hcb : lb ≤ cb) (hla : la ≤ 9223372036854775807) (hlb : lb ≤ 9223372036854775807) :
    Calls Try.prog 20 #[.agg #[.int .i64 n, .int .i64 f, .slice A la ca, .slice B lb cb]] w fun e w' => e = .returned (.agg #[.int .i64 n, .int .i64 f, .slice A ma ca, .slice B mb cb]) ∧ RowKit.Below w.heap.size w w' := by
  rcases Nat.lt_or_ge 20 la with hA | hA <;> rcases Nat.lt_or_ge 10 lb with hB | hB
  · obtain rfl : 20 = ma := by omega
    obtain rfl : 10 = mb := by omega
    have i1 : 20 < (la : Int) := by omega
    have i2 : 10 < (lb : Int) := by omega
    clear hma hmb
    go_enter Try.func20, Try.ntmps20
    go_wp2_with fail
    all_goals first | (exfalso; omega) | skip
    refine bodyPost_ret (results_cell_row rfl _ _ (w.heap.size + 1) 25 #[.int .i64 n, .int .i64 f, .slice A 20 ca, .slice B 10 cb] (0, 0) _ rfl (alloc_two _ _ _) Try.underlying25 rfl (by kernel_rfl)) rfl ?_
    exact ⟨rfl, below_alloc (below_alloc (RowKit.Below.refl _ _) _) _⟩
  · obtain rfl : 20 = ma := by omega
    obtain rfl : lb = mb := by omega
    have i1 : 20 < (la : Int) := by omega
    have i2 : (lb : Int) ≤ 10 := by omega
    clear hma hmb
    go_enter Try.func20, Try.ntmps20
    go_wp2_with fail
    all_goals first | (exfalso; omega) | skip
    refine bodyPost_ret (results_cell_row rfl _ _ (w.heap.size + 1) 25 #[.int .i64 n, .int .i64 f, .slice A 20 ca, .slice B lb cb] (0, 0) _ rfl (alloc_two _ _ _) Try.underlying25 rfl (by kernel_rfl)) rfl ?_
    exact ⟨rfl, below_alloc (below_alloc (RowKit.Below.refl _ _) _) _⟩
  · obtain rfl : la = ma := by omega
    obtain rfl : 10 = mb := by omega
    have i1 : (la : Int) ≤ 20 := by omega
    have i2 : 10 < (lb : Int) := by omega
    clear hma hmb
    go_enter Try.func20, Try.ntmps20
    go_wp2_with fail
    all_goals first | (exfalso; omega) | skip
    refine bodyPost_ret (results_cell_row rfl _ _ (w.heap.size + 1) 25 #[.int .i64 n, .int .i64 f, .slice A la ca, .slice B 10 cb] (0, 0) _ rfl (alloc_two _ _ _) Try.underlying25 rfl (by kernel_rfl)) rfl ?_
    exact ⟨rfl, below_alloc (below_alloc (RowKit.Below.refl _ _) _) _⟩
  · obtain rfl : la = ma := by omega
    obtain rfl : lb = mb := by omega
    have i1 : (la : Int) ≤ 20 := by omega
    have i2 : (lb : Int) ≤ 10 := by omega
    clear hma hmb
    go_enter Try.func20, Try.ntmps20
    go_wp2_with fail
    all_goals first | (exfalso; omega) | skip
    refine bodyPost_ret (results_cell_row rfl _ _ (w.heap.size + 1) 25 #[.int .i64 n, .int .i64 f, .slice A la ca, .slice B lb cb] (0, 0) _ rfl (alloc_two _ _ _) Try.underlying25 rfl (by kernel_rfl)) rfl ?_
    exact ⟨rfl, below_alloc (below_alloc (RowKit.Below.refl _ _) _) _⟩
set_option maxHeartbeats 4000000 in
set_option maxRecDepth 100000 in
theorem node_own (n f : Int) (A : Option Addr) (ca : Nat) (cs : List Int) (B : Option Addr) (cb : Nat) (ds : List (List Int)) (m : Int) (s : Nat) (hs : s < 256) (nd cpu cur : Int) (M : Option Addr) (cm : Nat) (may : List Bool) (w : World) (hr2 : Kd.C (Kd.int .i64) w A cs.length cs) (hca : cs.length ≤ ca) (hr3 : Kd.C (Kd.slice 3 (Kd.int .i64)) w B ds.length ds) (hcb : ds.length ≤ cb) (hrm : Kd.C Kd.bool w M may.length may) :
    Calls Try.prog 21 #[.agg #[.int .i64 n, .int .i64 f, .slice A cs.length ca, .slice B ds.length cb], .agg #[.int .i64 m, .int .u8 s, .int .i64 nd], .int .i64 cpu, .int .i64 cur, .slice M may.length cm] w fun e w' => e = .returned (.tuple #[.agg #[.int .i64 (chV n f cs ds m s nd cpu cur may).1, .int .i64 (chV n f cs ds m s nd cpu cur may).2.1, .int .i64 (chV n f cs ds m s nd cpu cur may).2.2.1], .int .i64 (chV n f cs ds m s nd cpu cur may).2.2.2]) ∧ RowKit.Below w.heap.size w w' := by
  have HC2 := Aside0.mk hr2
  have HC3 := Aside0.mk hr3
  have HCM := Aside0.mk hrm
  obtain ⟨c, hc⟩ : ∃ c, chk n f cs ds = c := ⟨_, rfl⟩
  have HCK := Aside0.mk (show ∀ W : World, RowKit.Below w.heap.size w W → Calls Try.prog 30 #[.agg #[.int .i64 n, .int .i64 f, .slice A cs.length ca, .slice B ds.length cb]] W (fun e w' => e = .returned (.int .i64 c) ∧ RowKit.Below W.heap.size W w') from fun W hW => by
    have := check_own n f A ca cs B cb ds W (Kd.C_below HC2.out hW) hca (Kd.C_below HC3.out hW) hcb
    rw [hc] at this
    exact this)
  clear hr2 hr3 hrm
  by_cases hc0 : c = 0
  · subst hc0
    by_cases hcpu : cpu < 0 ∨ (cs.length : Int) ≤ cpu
    · have HV := Aside0.mk (show chV n f cs ds m s nd cpu cur may = (0, 0, 0, 11) from by unfold chV; rw [if_pos hc, if_pos hcpu])
      clear hc
      rw [HV.out]
      by_cases hn0 : cpu < 0
      · have b1 : decide (cpu < 0) = true := decide_eq_true hn0
        clear hcpu
        go_enter Try.func21, Try.ntmps21
        go_wp2_with (go_at_call 30; (with_reducible refine (HCK.out _ (below_alloc (below_alloc (below_alloc (RowKit.Below.refl w.heap.size w) _) _) _)).mono ?_); rintro e_ w1 ⟨rfl, hb⟩; have HX := Aside0.mk ((((Blk.new w #[.int .i64 n, .int .i64 f, .slice A cs.length ca, .slice B ds.length cb] 33).alloc _).alloc _).below hb); have HP := Aside0.mk (((Blk.new1 w _ #[.int .i64 m, .int .u8 s, .int .i64 nd] 57).alloc _).below hb); have HR := Aside0.mk ((Blk.new2 w _ _ #[.int .i64 0, .int .i64 0, .int .i64 0] 53).below hb); have HB := Aside0.mk (below_then (below_alloc (below_alloc (below_alloc (RowKit.Below.refl w.heap.size w) _) _) _) (below_alloc (below_alloc (below_alloc (RowKit.Below.refl w.heap.size w) _) _) _).size hb); clear hb; have c0 := HX.out.at 0 (.int .i64 n) rfl; have c1 := HX.out.at 1 (.int .i64 f) rfl; have c2 := HX.out.at 2 (.slice A cs.length ca) rfl; have c3 := HX.out.at 3 (.slice B ds.length cb) rfl; have p0 := HP.out.at 0 (.int .i64 m) rfl; have p1 := HP.out.at 1 (.int .u8 s) rfl; have p2 := HP.out.at 2 (.int .i64 nd) rfl; have r0 := HR.out.at 0 (.int .i64 0) rfl; have r1 := HR.out.at 1 (.int .i64 0) rfl; have r2 := HR.out.at 2 (.int .i64 0) rfl; have f0 := HR.out.fz 0; have f1 := HR.out.fz 1; have f2 := HR.out.fz 2)
        refine bodyPost_ret (results_ct rfl _ _ (w.heap.size + 1 + 1) 53 #[(.int .i64 0), (.int .i64 0), (.int .i64 0)] (0, 0) _ rfl (HR.out.put3 (.int .i64 0) (.int .i64 0) (.int .i64 0)) Try.underlying53 rfl (by kernel_rfl)) rfl ?_
        exact ⟨rfl, below_put3 HB.out (by omega) _ _ _⟩
      · have hn1 : (cs.length : Int) ≤ cpu := by omega
        have b1 : decide (cpu < 0) = false := decide_eq_false hn0
        have b2 : decide ((cs.length : Int) ≤ cpu) = true := decide_eq_true hn1
        clear hcpu
        go_enter Try.func21, Try.ntmps21
        go_wp2_with (go_at_call 30; (with_reducible refine (HCK.out _ (below_alloc (below_alloc (below_alloc (RowKit.Below.refl w.heap.size w) _) _) _)).mono ?_); rintro e_ w1 ⟨rfl, hb⟩; have HX := Aside0.mk ((((Blk.new w #[.int .i64 n, .int .i64 f, .slice A cs.length ca, .slice B ds.length cb] 33).alloc _).alloc _).below hb); have HP := Aside0.mk (((Blk.new1 w _ #[.int .i64 m, .int .u8 s, .int .i64 nd] 57).alloc _).below hb); have HR := Aside0.mk ((Blk.new2 w _ _ #[.int .i64 0, .int .i64 0, .int .i64 0] 53).below hb); have HB := Aside0.mk (below_then (below_alloc (below_alloc (below_alloc (RowKit.Below.refl w.heap.size w) _) _) _) (below_alloc (below_alloc (below_alloc (RowKit.Below.refl w.heap.size w) _) _) _).size hb); clear hb; have c0 := HX.out.at 0 (.int .i64 n) rfl; have c1 := HX.out.at 1 (.int .i64 f) rfl; have c2 := HX.out.at 2 (.slice A cs.length ca) rfl; have c3 := HX.out.at 3 (.slice B ds.length cb) rfl; have p0 := HP.out.at 0 (.int .i64 m) rfl; have p1 := HP.out.at 1 (.int .u8 s) rfl; have p2 := HP.out.at 2 (.int .i64 nd) rfl; have r0 := HR.out.at 0 (.int .i64 0) rfl; have r1 := HR.out.at 1 (.int .i64 0) rfl; have r2 := HR.out.at 2 (.int .i64 0) rfl; have f0 := HR.out.fz 0; have f1 := HR.out.fz 1; have f2 := HR.out.fz 2)
        refine bodyPost_ret (results_ct rfl _ _ (w.heap.size + 1 + 1) 53 #[(.int .i64 0), (.int .i64 0), (.int .i64 0)] (0, 0) _ rfl (HR.out.put3 (.int .i64 0) (.int .i64 0) (.int .i64 0)) Try.underlying53 rfl (by kernel_rfl)) rfl ?_
        exact ⟨rfl, below_put3 HB.out (by omega) _ _ _⟩
    · obtain ⟨k, rfl, h1, h8, hdl, hrl, hfits⟩ := chk_zero hc
      obtain ⟨i, rfl⟩ : ∃ i : Nat, cpu = (i : Int) := ⟨cpu.toNat, by omega⟩
      have hi : i < cs.length := by omega
      have b1 : decide ((i : Int) < 0) = false := decide_eq_false (by omega)
      have b2 : decide (cs.length ≤ i) = false := decide_eq_false (by omega)
      have i0 : (0 : Int) ≤ (i : Int) := by omega
      have iI : (i : Int) < (cs.length : Int) := by omega
      obtain ⟨pe, hpe⟩ : ∃ pe, polR m s nd k = pe := ⟨_, rfl⟩
      by_cases hp0 : pe = 0
      · subst hp0
        obtain ⟨own, hown⟩ : ∃ own, rd cs (i : Int) = own := ⟨_, rfl⟩
        obtain ⟨oi, o2⟩ : 0 ≤ own ∧ own < k := by
          rw [← hown]
          unfold rd
          rw [Int.toNat_natCast, List.getD_eq_getElem?_getD, List.getElem?_eq_getElem hi]
          exact chk_cpus hc _ (List.getElem_mem hi)
        obtain ⟨st, hst⟩ : ∃ st, startR m s nd own cur = st := ⟨_, rfl⟩
        obtain ⟨x, y⟩ := st
        obtain ⟨x0, xk⟩ := start_in m s hs nd k h1 h8 own cur oi o2 hpe
        rw [hst] at x0 xk
        simp only at x0 xk
        obtain ⟨a, rfl⟩ : ∃ a : Nat, x = (a : Int) := ⟨x.toNat, by omega⟩
        have he0 : erN (k : Int) f cs ds (a : Int) = 0 := by unfold erN; rw [if_pos hc, if_neg (by omega)]
        obtain ⟨o, ho⟩ : ∃ o, nearR may (inL (permR m s k) (ordL ds a k)) = o := ⟨_, rfl⟩
        have HV := Aside0.mk (show chV (k : Int) f cs ds m s nd (i : Int) cur may = (o.getD 0, (a : Int), y, if o.isSome = true then 0 else 5) from by
          unfold chV
          rw [if_pos hc, if_neg hcpu, if_pos hpe, hown, hst, Int.toNat_natCast, Int.toNat_natCast, ho])
        have HPE := Aside0.mk (show ∀ W : World, Calls Try.prog 38 #[.agg #[.int .i64 m, .int .u8 s, .int .i64 nd], .int .i64 k] W (fun e w' => e = .returned (.tuple #[.int .u8 (permR m s k), .int .i64 0]) ∧ RowKit.Below W.heap.size W w') from fun W => policy_Permitted.calls 20 m s nd k (permR m s k) 0 W (by rw [pperm_f m s nd k h1 h8, hpe, if_pos rfl]))
        have HST := Aside0.mk (show ∀ W : World, Calls Try.prog 39 #[.agg #[.int .i64 m, .int .u8 s, .int .i64 nd], .int .i64 k, .int .i64 own, .int .i64 cur] W (fun e w' => e = .returned (.tuple #[.int .i64 a, .int .i64 y, .int .i64 0]) ∧ RowKit.Below W.heap.size W w') from fun W => policy_Start.calls 20 m s nd k own cur a y 0 W (by rw [pstart_f m s hs nd k h1 h8 own cur oi o2 hpe, hst]))
        have HNE := Aside0.mk (show ∀ W : World, RowKit.Below w.heap.size w W → Calls Try.prog 14 #[.agg #[.int .i64 k, .int .i64 f, .slice A cs.length ca, .slice B ds.length cb], .int .i64 a, .int .u8 (permR m s k), .slice M may.length cm] W (fun e w' => e = .returned (.tuple #[.int .i64 (o.getD 0), .bool o.isSome]) ∧ RowKit.Below W.heap.size W w') from fun W hW => by
          have := nearest_own k f A ca cs B cb ds a (permR m s k) M cm may W (Kd.C_below HC2.out hW) hca (Kd.C_below HC3.out hW) hcb (Kd.C_below HCM.out hW)
          rw [show lstN (k : Int) f cs ds (a : Int) = ordL ds a k from by unfold lstN; rw [if_pos he0, Int.toNat_natCast, Int.toNat_natCast], ho] at this
          exact this)
        have HOW := Aside0.mk hown
        rw [HV.out]
        obtain ⟨pm, hpm⟩ : ∃ pm, permR m s k = pm := ⟨_, rfl⟩
        rw [hpm] at HPE HNE
        clear hc hcpu hdl hrl hfits hpe hown hst he0 ho HV hpm oi o2 x0 xk
        go_enter Try.func21, Try.ntmps21
        go_upto_region 9 with (first | (go_at_call 30; (with_reducible refine (HCK.out _ (below_alloc (below_alloc (below_alloc (RowKit.Below.refl w.heap.size w) _) _) _)).mono ?_); rintro e_ w1 ⟨rfl, hb⟩; have HX := Aside0.mk ((((Blk.new w #[.int .i64 k, .int .i64 f, .slice A cs.length ca, .slice B ds.length cb] 33).alloc _).alloc _).below hb); have HP := Aside0.mk (((Blk.new1 w _ #[.int .i64 m, .int .u8 s, .int .i64 nd] 57).alloc _).below hb); have HR := Aside0.mk ((Blk.new2 w _ _ #[.int .i64 0, .int .i64 0, .int .i64 0] 53).below hb); have HB := Aside0.mk (below_then (below_alloc (below_alloc (below_alloc (RowKit.Below.refl w.heap.size w) _) _) _) (below_alloc (below_alloc (below_alloc (RowKit.Below.refl w.heap.size w) _) _) _).size hb); clear hb; have c0 := HX.out.at 0 (.int .i64 k) rfl; have c1 := HX.out.at 1 (.int .i64 f) rfl; have c2 := HX.out.at 2 (.slice A cs.length ca) rfl; have c3 := HX.out.at 3 (.slice B ds.length cb) rfl; have p0 := HP.out.at 0 (.int .i64 m) rfl; have p1 := HP.out.at 1 (.int .u8 s) rfl; have p2 := HP.out.at 2 (.int .i64 nd) rfl; have r0 := HR.out.at 0 (.int .i64 0) rfl; have r1 := HR.out.at 1 (.int .i64 0) rfl; have r2 := HR.out.at 2 (.int .i64 0) rfl; have f0 := HR.out.fz 0; have f1 := HR.out.fz 1; have f2 := HR.out.fz 2) | (go_at_call 38; (with_reducible refine (HPE.out _).mono ?_); rintro e_ w2 ⟨rfl, hb⟩; have n0_ := Aside0.mk (below_then HB.out HB.out.size hb); have n1_ := Aside0.mk (HX.out.below hb); have n2_ := Aside0.mk (HP.out.below hb); have n3_ := Aside0.mk (HR.out.below hb); clear HB HX HP HR c0 c1 c2 c3 p0 p1 p2 r0 r1 r2 f0 f1 f2 hb; have HB := n0_; have HX := n1_; have HP := n2_; have HR := n3_; clear n0_ n1_ n2_ n3_; have c0 := HX.out.at 0 (.int .i64 k) rfl; have c1 := HX.out.at 1 (.int .i64 f) rfl; have c2 := HX.out.at 2 (.slice A cs.length ca) rfl; have c3 := HX.out.at 3 (.slice B ds.length cb) rfl; have p0 := HP.out.at 0 (.int .i64 m) rfl; have p1 := HP.out.at 1 (.int .u8 s) rfl; have p2 := HP.out.at 2 (.int .i64 nd) rfl; have r0 := HR.out.at 0 (.int .i64 0) rfl; have r1 := HR.out.at 1 (.int .i64 0) rfl; have r2 := HR.out.at 2 (.int .i64 0) rfl; have f0 := HR.out.fz 0; have f1 := HR.out.fz 1; have f2 := HR.out.fz 2))
        obtain ⟨ad, rfl, q0⟩ := Kd.at_int (Kd.C_below HC2.out HB.out) (i : Int) i0 iI
        rw [Int.toNat_natCast, HOW.out] at q0
        refine start_ (n := 17) (S := fun w' => w'.cell? ⟨w.heap.size, 0, none⟩ = some (.int .i64 k) ∧ w'.cell? ⟨w.heap.size, 2, none⟩ = some (.slice (some ad) cs.length ca) ∧ w'.cell? ⟨w.heap.size + 1, 0, none⟩ = some (.int .i64 m) ∧ w'.cell? ⟨w.heap.size + 1, 1, none⟩ = some (.int .u8 s) ∧ w'.cell? ⟨w.heap.size + 1, 2, none⟩ = some (.int .i64 nd) ∧ w'.cell? (ad.add i) = some (.int .i64 own)) (ds := [9]) #[false, false, false, false, false, false, false, false, false, false, false, false, false, false, false, false, false] (by kernel_rfl) rfl rfl ⟨c0, c2, p0, p1, p2, q0⟩ (fun hHeld => ?_)
        have hd_ := below_drew (RowKit.Below.refl w2.heap.size w2)
        have n0_ := Aside0.mk (below_then HB.out HB.out.size hd_)
        have n1_ := Aside0.mk (HX.out.below hd_)
        have n2_ := Aside0.mk (HP.out.below hd_)
        have n3_ := Aside0.mk (HR.out.below hd_)
        clear HB HX HP HR c0 c1 c2 c3 p0 p1 p2 r0 r1 r2 f0 f1 f2 hd_
        have HB := n0_
        have HX := n1_
        have HP := n2_
        have HR := n3_
        clear n0_ n1_ n2_ n3_
        have c0 := HX.out.at 0 (.int .i64 k) rfl
        have c1 := HX.out.at 1 (.int .i64 f) rfl
        have c2 := HX.out.at 2 (.slice (some ad) cs.length ca) rfl
        have c3 := HX.out.at 3 (.slice B ds.length cb) rfl
        have p0 := HP.out.at 0 (.int .i64 m) rfl
        have p1 := HP.out.at 1 (.int .u8 s) rfl
        have p2 := HP.out.at 2 (.int .i64 nd) rfl
        have r0 := HR.out.at 0 (.int .i64 0) rfl
        have r1 := HR.out.at 1 (.int .i64 0) rfl
        have r2 := HR.out.at 2 (.int .i64 0) rfl
        have f0 := HR.out.fz 0
        have f1 := HR.out.fz 1
        have f2 := HR.out.fz 2
        clear q0
        generalize w2.drew = wd at *
        refine pure_ (i := 1) (N := some 48) (v := ?_) (a' := ?_) #[false, true, false, false, false, false, false, false, false, false, false, false, false, false, false, false, false] rfl rfl (by kernel_rfl) (fun _ _ _ h => h) (Or.inl ⟨by rfl, ?_⟩) ?_ ?_
        rotate_left
        · intro w'
          go_simp
          with_reducible rfl
        rotate_left
        · simp only [Act.put, List.setIfInBounds_toArray, List.set_cons_zero, List.set_cons_succ, i64_w, i32_w]
          rfl
        refine pure_ (i := 3) (N := some 50) (v := ?_) (a' := ?_) #[false, true, false, true, false, false, false, false, false, false, false, false, false, false, false, false, false] rfl rfl (by kernel_rfl) (fun _ _ _ h => h) (Or.inl ⟨by rfl, ?_⟩) ?_ ?_
        rotate_left
        · intro w'
          go_simp
          with_reducible rfl
        rotate_left
        · simp only [Act.put, List.setIfInBounds_toArray, List.set_cons_zero, List.set_cons_succ, i64_w, i32_w]
          rfl
        refine pure_ (i := 5) (N := some 52) (v := ?_) (a' := ?_) #[false, true, false, true, false, true, false, false, false, false, false, false, false, false, false, false, false] rfl rfl (by kernel_rfl) (fun _ _ _ h => h) (Or.inl ⟨by rfl, ?_⟩) ?_ ?_
        rotate_left
        · intro w'
          go_simp
          with_reducible rfl
        rotate_left
        · simp only [Act.put, List.setIfInBounds_toArray, List.set_cons_zero, List.set_cons_succ, i64_w, i32_w]
          rfl
        refine pure_ (i := 8) (N := some 55) (v := ?_) (a' := ?_) #[false, true, false, true, false, true, false, false, true, false, false, false, false, false, false, false, false] rfl rfl (by kernel_rfl) (fun _ _ _ h => h) (Or.inl ⟨by rfl, ?_⟩) ?_ ?_
        rotate_left
        · intro w'
          go_simp
          with_reducible rfl
        rotate_left
        · simp only [Act.put, List.setIfInBounds_toArray, List.set_cons_zero, List.set_cons_succ, i64_w, i32_w]
          rfl
        refine take_ (i := 0) (N := some 47) (v := ?_) (a' := ?_) #[true, true, false, true, false, true, false, false, true, false, false, false, false, false, false, false, false] rfl rfl (by kernel_rfl) (fun _ _ _ h => h) (Or.inl ⟨by rfl, ?_⟩) hHeld ?_ ?_
        rotate_left
        · rintro w' ⟨s0, s1, s2, s3, s4, s5⟩
          go_simp
          with_reducible rfl
        rotate_left
        · simp only [Act.put, List.setIfInBounds_toArray, List.set_cons_zero, List.set_cons_succ, i64_w, i32_w]
          rfl
        refine take_ (i := 2) (N := some 49) (v := ?_) (a' := ?_) #[true, true, true, true, false, true, false, false, true, false, false, false, false, false, false, false, false] rfl rfl (by kernel_rfl) (fun _ _ _ h => h) (Or.inl ⟨by rfl, ?_⟩) hHeld ?_ ?_
        rotate_left
        · rintro w' ⟨s0, s1, s2, s3, s4, s5⟩
          go_simp
          with_reducible rfl
        rotate_left
        · simp only [Act.put, List.setIfInBounds_toArray, List.set_cons_zero, List.set_cons_succ, i64_w, i32_w]
          rfl
        refine take_ (i := 4) (N := some 51) (v := ?_) (a' := ?_) #[true, true, true, true, true, true, false, false, true, false, false, false, false, false, false, false, false] rfl rfl (by kernel_rfl) (fun _ _ _ h => h) (Or.inl ⟨by rfl, ?_⟩) hHeld ?_ ?_
        rotate_left
        · rintro w' ⟨s0, s1, s2, s3, s4, s5⟩
          go_simp
          with_reducible rfl
        rotate_left
        · simp only [Act.put, List.setIfInBounds_toArray, List.set_cons_zero, List.set_cons_succ, i64_w, i32_w]
          rfl
        refine pure_ (i := 6) (N := some 53) (v := ?_) (a' := ?_) #[true, true, true, true, true, true, true, false, true, false, false, false, false, false, false, false, false] rfl rfl (by kernel_rfl) (fun _ _ _ h => h) (Or.inl ⟨by rfl, ?_⟩) ?_ ?_
        rotate_left
        · intro w'
          go_simp
          with_reducible rfl
        rotate_left
        · simp only [Act.put, List.setIfInBounds_toArray, List.set_cons_zero, List.set_cons_succ, i64_w, i32_w]
          rfl
        refine take_ (i := 7) (N := some 54) (v := ?_) (a' := ?_) #[true, true, true, true, true, true, true, true, true, false, false, false, false, false, false, false, false] rfl rfl (by kernel_rfl) (fun _ _ _ h => h) (Or.inl ⟨by rfl, ?_⟩) hHeld ?_ ?_
        rotate_left
        · rintro w' ⟨s0, s1, s2, s3, s4, s5⟩
          go_simp
          with_reducible rfl
        rotate_left
        · simp only [Act.put, List.setIfInBounds_toArray, List.set_cons_zero, List.set_cons_succ, i64_w, i32_w]
          rfl
        refine last_ (i := 9) (N := some 56) #[true, true, true, true, true, true, true, true, true, true, false, false, false, false, false, false, false] rfl rfl (by kernel_rfl) (by decide) (fun K hK => ?_)
        refine goes_ Try.func39 (by kernel_rfl) rfl #[.agg #[.int .i64 m, .int .u8 s, .int .i64 nd], .int .i64 k, .int .i64 own, .int .i64 cur] (by rfl) rfl rfl (by simp only [List.map_toArray, List.map_cons, List.map_nil]; rfl) ?_
        with_reducible refine (HST.out _).mono ?_
        rintro e_ w3 ⟨rfl, hb⟩
        refine ⟨_, rfl, ?_⟩
        have n0_ := Aside0.mk (below_then HB.out HB.out.size hb)
        have n1_ := Aside0.mk (HX.out.below hb)
        have n2_ := Aside0.mk (HP.out.below hb)
        have n3_ := Aside0.mk (HR.out.below hb)
        clear HB HX HP HR c0 c1 c2 c3 p0 p1 p2 r0 r1 r2 f0 f1 f2 hb
        have HB := n0_
        have HX := n1_
        have HP := n2_
        have HR := n3_
        clear n0_ n1_ n2_ n3_
        have c0 := HX.out.at 0 (.int .i64 k) rfl
        have c1 := HX.out.at 1 (.int .i64 f) rfl
        have c2 := HX.out.at 2 (.slice (some ad) cs.length ca) rfl
        have c3 := HX.out.at 3 (.slice B ds.length cb) rfl
        have p0 := HP.out.at 0 (.int .i64 m) rfl
        have p1 := HP.out.at 1 (.int .u8 s) rfl
        have p2 := HP.out.at 2 (.int .i64 nd) rfl
        have r0 := HR.out.at 0 (.int .i64 0) rfl
        have r1 := HR.out.at 1 (.int .i64 0) rfl
        have r2 := HR.out.at 2 (.int .i64 0) rfl
        have f0 := HR.out.fz 0
        have f1 := HR.out.fz 1
        have f2 := HR.out.fz 2
        refine hK.out _ _ ?_
        clear hK K
        refine norm_ (a' := ?_) ?_ ?_
        rotate_left
        · show Act.put _ (some 56) _ = _
          simp only [Act.put, List.setIfInBounds_toArray, List.set_cons_zero, List.set_cons_succ, i64_w, i32_w]
          rfl
        refine pure_ (i := 10) (N := some 46) (v := ?_) (a' := ?_) #[true, true, true, true, true, true, true, true, true, true, true, false, false, false, false, false, false] rfl rfl (by kernel_rfl) (fun _ _ _ h => h) (Or.inl ⟨by rfl, ?_⟩) ?_ ?_
        rotate_left
        · intro w'
          go_simp
          with_reducible rfl
        rotate_left
        · simp only [Act.put, List.setIfInBounds_toArray, List.set_cons_zero, List.set_cons_succ, i64_w, i32_w]
          rfl
        refine pure_ (i := 11) (N := some 57) (v := ?_) (a' := ?_) #[true, true, true, true, true, true, true, true, true, true, true, true, false, false, false, false, false] rfl rfl (by kernel_rfl) (fun _ _ _ h => h) (Or.inl ⟨by rfl, ?_⟩) ?_ ?_
        rotate_left
        · intro w'
          go_simp
          with_reducible rfl
        rotate_left
        · simp only [Act.put, List.setIfInBounds_toArray, List.set_cons_zero, List.set_cons_succ, i64_w, i32_w]
          rfl
        refine pure_ (i := 12) (N := some 58) (v := ?_) (a' := ?_) #[true, true, true, true, true, true, true, true, true, true, true, true, true, false, false, false, false] rfl rfl (by kernel_rfl) (fun _ _ _ h => h) (Or.inl ⟨by rfl, ?_⟩) ?_ ?_
        rotate_left
        · intro w'
          go_simp
          with_reducible rfl
        rotate_left
        · simp only [Act.put, List.setIfInBounds_toArray, List.set_cons_zero, List.set_cons_succ, i64_w, i32_w]
          rfl
        refine pure_ (i := 13) (N := some 59) (v := ?_) (a' := ?_) #[true, true, true, true, true, true, true, true, true, true, true, true, true, true, false, false, false] rfl rfl (by kernel_rfl) (fun _ _ _ h => h) (Or.inl ⟨by rfl, ?_⟩) ?_ ?_
        rotate_left
        · intro w'
          go_simp
          with_reducible rfl
        rotate_left
        · simp only [Act.put, List.setIfInBounds_toArray, List.set_cons_zero, List.set_cons_succ, i64_w, i32_w]
          rfl
        refine pure_ (i := 14) (N := some 15) (v := ?_) (a' := ?_) #[true, true, true, true, true, true, true, true, true, true, true, true, true, true, true, false, false] rfl rfl (by kernel_rfl) (fun _ _ _ h => h) (Or.inl ⟨by rfl, ?_⟩) ?_ ?_
        rotate_left
        · intro w'
          go_simp
          with_reducible rfl
        rotate_left
        · simp only [Act.put, List.setIfInBounds_toArray, List.set_cons_zero, List.set_cons_succ, i64_w, i32_w]
          rfl
        refine pure_ (i := 15) (N := some 16) (v := ?_) (a' := ?_) #[true, true, true, true, true, true, true, true, true, true, true, true, true, true, true, true, false] rfl rfl (by kernel_rfl) (fun _ _ _ h => h) (Or.inl ⟨by rfl, ?_⟩) ?_ ?_
        rotate_left
        · intro w'
          go_simp
          with_reducible rfl
        rotate_left
        · simp only [Act.put, List.setIfInBounds_toArray, List.set_cons_zero, List.set_cons_succ, i64_w, i32_w]
          rfl
        refine pure_ (i := 16) (N := some 14) (v := ?_) (a' := ?_) #[true, true, true, true, true, true, true, true, true, true, true, true, true, true, true, true, true] rfl rfl (by kernel_rfl) (fun _ _ _ h => h) (Or.inl ⟨by rfl, ?_⟩) ?_ ?_
        rotate_left
        · intro w'
          go_simp
          with_reducible rfl
        rotate_left
        · simp only [Act.put, List.setIfInBounds_toArray, List.set_cons_zero, List.set_cons_succ, i64_w, i32_w]
          rfl
        refine done_ (by kernel_rfl) ?_
        cases o with
        | none =>
          go_wp2_with (go_at_call 14; (with_reducible refine (HNE.out _ HB.out).mono ?_); rintro e_ w4 ⟨rfl, hb⟩; have n0_ := Aside0.mk (below_then HB.out HB.out.size hb); have n1_ := Aside0.mk (HX.out.below hb); have n2_ := Aside0.mk (HP.out.below hb); have n3_ := Aside0.mk (HR.out.below hb); clear HB HX HP HR c0 c1 c2 c3 p0 p1 p2 r0 r1 r2 f0 f1 f2 hb; have HB := n0_; have HX := n1_; have HP := n2_; have HR := n3_; clear n0_ n1_ n2_ n3_; have c0 := HX.out.at 0 (.int .i64 k) rfl; have c1 := HX.out.at 1 (.int .i64 f) rfl; have c2 := HX.out.at 2 (.slice (some ad) cs.length ca) rfl; have c3 := HX.out.at 3 (.slice B ds.length cb) rfl; have p0 := HP.out.at 0 (.int .i64 m) rfl; have p1 := HP.out.at 1 (.int .u8 s) rfl; have p2 := HP.out.at 2 (.int .i64 nd) rfl; have r0 := HR.out.at 0 (.int .i64 0) rfl; have r1 := HR.out.at 1 (.int .i64 0) rfl; have r2 := HR.out.at 2 (.int .i64 0) rfl; have f0 := HR.out.fz 0; have f1 := HR.out.fz 1; have f2 := HR.out.fz 2)
          refine bodyPost_ret (results_ct rfl _ _ (w.heap.size + 1 + 1) 53 #[(.int .i64 0), (.int .i64 a), (.int .i64 y)] (0, 0) _ rfl (HR.out.put3 (.int .i64 0) (.int .i64 a) (.int .i64 y)) Try.underlying53 rfl (by kernel_rfl)) rfl ?_
          exact ⟨rfl, below_put3 HB.out (by omega) _ _ _⟩
        | some x =>
          go_wp2_with (go_at_call 14; (with_reducible refine (HNE.out _ HB.out).mono ?_); rintro e_ w4 ⟨rfl, hb⟩; have n0_ := Aside0.mk (below_then HB.out HB.out.size hb); have n1_ := Aside0.mk (HX.out.below hb); have n2_ := Aside0.mk (HP.out.below hb); have n3_ := Aside0.mk (HR.out.below hb); clear HB HX HP HR c0 c1 c2 c3 p0 p1 p2 r0 r1 r2 f0 f1 f2 hb; have HB := n0_; have HX := n1_; have HP := n2_; have HR := n3_; clear n0_ n1_ n2_ n3_; have c0 := HX.out.at 0 (.int .i64 k) rfl; have c1 := HX.out.at 1 (.int .i64 f) rfl; have c2 := HX.out.at 2 (.slice (some ad) cs.length ca) rfl; have c3 := HX.out.at 3 (.slice B ds.length cb) rfl; have p0 := HP.out.at 0 (.int .i64 m) rfl; have p1 := HP.out.at 1 (.int .u8 s) rfl; have p2 := HP.out.at 2 (.int .i64 nd) rfl; have r0 := HR.out.at 0 (.int .i64 0) rfl; have r1 := HR.out.at 1 (.int .i64 0) rfl; have r2 := HR.out.at 2 (.int .i64 0) rfl; have f0 := HR.out.fz 0; have f1 := HR.out.fz 1; have f2 := HR.out.fz 2)
          refine bodyPost_ret (results_ct rfl _ _ (w.heap.size + 1 + 1) 53 #[(.int .i64 x), (.int .i64 a), (.int .i64 y)] (0, 0) _ rfl (HR.out.put3 (.int .i64 x) (.int .i64 a) (.int .i64 y)) Try.underlying53 rfl (by kernel_rfl)) rfl ?_
          exact ⟨rfl, below_put3 HB.out (by omega) _ _ _⟩
      · have HV := Aside0.mk (show chV (k : Int) f cs ds m s nd (i : Int) cur may = (0, 0, 0, pe) from by unfold chV; rw [if_pos hc, if_neg hcpu, if_neg (by rw [hpe]; exact hp0), hpe])
        have HPE := Aside0.mk (show ∀ W : World, Calls Try.prog 38 #[.agg #[.int .i64 m, .int .u8 s, .int .i64 nd], .int .i64 k] W (fun e w' => e = .returned (.tuple #[.int .u8 0, .int .i64 pe]) ∧ RowKit.Below W.heap.size W w') from fun W => policy_Permitted.calls 20 m s nd k 0 pe W (by rw [pperm_f m s nd k h1 h8, hpe, if_neg hp0]))
        have b3 : (pe == 0) = false := by simpa using hp0
        have b4 : (pe != 0) = true := by simpa using hp0
        rw [HV.out]
        clear hc hcpu hdl hrl hfits hpe
        go_enter Try.func21, Try.ntmps21
        go_wp2_with (first | (go_at_call 30; (with_reducible refine (HCK.out _ (below_alloc (below_alloc (below_alloc (RowKit.Below.refl w.heap.size w) _) _) _)).mono ?_); rintro e_ w1 ⟨rfl, hb⟩; have HX := Aside0.mk ((((Blk.new w #[.int .i64 k, .int .i64 f, .slice A cs.length ca, .slice B ds.length cb] 33).alloc _).alloc _).below hb); have HP := Aside0.mk (((Blk.new1 w _ #[.int .i64 m, .int .u8 s, .int .i64 nd] 57).alloc _).below hb); have HR := Aside0.mk ((Blk.new2 w _ _ #[.int .i64 0, .int .i64 0, .int .i64 0] 53).below hb); have HB := Aside0.mk (below_then (below_alloc (below_alloc (below_alloc (RowKit.Below.refl w.heap.size w) _) _) _) (below_alloc (below_alloc (below_alloc (RowKit.Below.refl w.heap.size w) _) _) _).size hb); clear hb; have c0 := HX.out.at 0 (.int .i64 k) rfl; have c1 := HX.out.at 1 (.int .i64 f) rfl; have c2 := HX.out.at 2 (.slice A cs.length ca) rfl; have c3 := HX.out.at 3 (.slice B ds.length cb) rfl; have p0 := HP.out.at 0 (.int .i64 m) rfl; have p1 := HP.out.at 1 (.int .u8 s) rfl; have p2 := HP.out.at 2 (.int .i64 nd) rfl; have r0 := HR.out.at 0 (.int .i64 0) rfl; have r1 := HR.out.at 1 (.int .i64 0) rfl; have r2 := HR.out.at 2 (.int .i64 0) rfl; have f0 := HR.out.fz 0; have f1 := HR.out.fz 1; have f2 := HR.out.fz 2) | (go_at_call 38; (with_reducible refine (HPE.out _).mono ?_); rintro e_ w2 ⟨rfl, hb⟩; have n0_ := Aside0.mk (below_then HB.out HB.out.size hb); have n1_ := Aside0.mk (HX.out.below hb); have n2_ := Aside0.mk (HP.out.below hb); have n3_ := Aside0.mk (HR.out.below hb); clear HB HX HP HR c0 c1 c2 c3 p0 p1 p2 r0 r1 r2 f0 f1 f2 hb; have HB := n0_; have HX := n1_; have HP := n2_; have HR := n3_; clear n0_ n1_ n2_ n3_; have c0 := HX.out.at 0 (.int .i64 k) rfl; have c1 := HX.out.at 1 (.int .i64 f) rfl; have c2 := HX.out.at 2 (.slice A cs.length ca) rfl; have c3 := HX.out.at 3 (.slice B ds.length cb) rfl; have p0 := HP.out.at 0 (.int .i64 m) rfl; have p1 := HP.out.at 1 (.int .u8 s) rfl; have p2 := HP.out.at 2 (.int .i64 nd) rfl; have r0 := HR.out.at 0 (.int .i64 0) rfl; have r1 := HR.out.at 1 (.int .i64 0) rfl; have r2 := HR.out.at 2 (.int .i64 0) rfl; have f0 := HR.out.fz 0; have f1 := HR.out.fz 1; have f2 := HR.out.fz 2))
        refine bodyPost_ret (results_ct rfl _ _ (w.heap.size + 1 + 1) 53 #[(.int .i64 0), (.int .i64 0), (.int .i64 0)] (0, 0) _ rfl (HR.out.put3 (.int .i64 0) (.int .i64 0) (.int .i64 0)) Try.underlying53 rfl (by kernel_rfl)) rfl ?_
        exact ⟨rfl, below_put3 HB.out (by omega) _ _ _⟩
  · have HV := Aside0.mk (show chV n f cs ds m s nd cpu cur may = (0, 0, 0, c) from by unfold chV; rw [if_neg (by rw [hc]; exact hc0), hc])
    have b1 : (c == 0) = false := by simpa using hc0
    have b2 : (c != 0) = true := by simpa using hc0
    clear hc
    rw [HV.out]
    go_enter Try.func21, Try.ntmps21
    go_wp2_with (go_at_call 30; (with_reducible refine (HCK.out _ (below_alloc (below_alloc (below_alloc (RowKit.Below.refl w.heap.size w) _) _) _)).mono ?_); rintro e_ w1 ⟨rfl, hb⟩; have HX := Aside0.mk ((((Blk.new w #[.int .i64 n, .int .i64 f, .slice A cs.length ca, .slice B ds.length cb] 33).alloc _).alloc _).below hb); have HP := Aside0.mk (((Blk.new1 w _ #[.int .i64 m, .int .u8 s, .int .i64 nd] 57).alloc _).below hb); have HR := Aside0.mk ((Blk.new2 w _ _ #[.int .i64 0, .int .i64 0, .int .i64 0] 53).below hb); have HB := Aside0.mk (below_then (below_alloc (below_alloc (below_alloc (RowKit.Below.refl w.heap.size w) _) _) _) (below_alloc (below_alloc (below_alloc (RowKit.Below.refl w.heap.size w) _) _) _).size hb); clear hb; have c0 := HX.out.at 0 (.int .i64 n) rfl; have c1 := HX.out.at 1 (.int .i64 f) rfl; have c2 := HX.out.at 2 (.slice A cs.length ca) rfl; have c3 := HX.out.at 3 (.slice B ds.length cb) rfl; have p0 := HP.out.at 0 (.int .i64 m) rfl; have p1 := HP.out.at 1 (.int .u8 s) rfl; have p2 := HP.out.at 2 (.int .i64 nd) rfl; have r0 := HR.out.at 0 (.int .i64 0) rfl; have r1 := HR.out.at 1 (.int .i64 0) rfl; have r2 := HR.out.at 2 (.int .i64 0) rfl; have f0 := HR.out.fz 0; have f1 := HR.out.fz 1; have f2 := HR.out.fz 2)
    refine bodyPost_ret (results_ct rfl _ _ (w.heap.size + 1 + 1) 53 #[(.int .i64 0), (.int .i64 0), (.int .i64 0)] (0, 0) _ rfl (HR.out.put3 (.int .i64 0) (.int .i64 0) (.int .i64 0)) Try.underlying53 rfl (by kernel_rfl)) rfl ?_
    exact ⟨rfl, below_put3 HB.out (by omega) _ _ _⟩
end Go.Proofs.Ytffmhpfdfcpniaa.T
namespace Go.Proofs.Ytffmhpfdfcpniaa.T
open Go.RowKit Go.Proofs.YtffmhpfdfcpniaaW.PrintWords Go.Proofs.YtffmhpfdfcpniaaW.PrintLast Go.Proofs.YtffmhpfdfcpniaaW.PrintMore Go.Proofs.Ytffmhpfdfcpniaa.PH
set_option linter.unusedVariables false
set_option linter.unusedSimpArgs false
/-- May a node of a set give? -/
def bothB (s : Int) (may : List Bool) (x : Int) : Bool := hasB s x && okB may x
theorem near_both (s : Int) (may : List Bool) (l : List Int) : nearR may (inL s l) = l.find? (bothB s may) := by
  unfold nearR inL bothB
  rw [List.find?_filter]
  congr 1
  funext x
  simp [Bool.decide_and]
theorem both_hit (s : Int) (may : List Bool) (l : List Int) (i : Nat) (x : Int) (hi : l[i]? = some x) (hno : ∀ j y, j < i → l[j]? = some y → bothB s may y = false) (hy : bothB s may x = true) : l.find? (bothB s may) = some x := by
  obtain ⟨h, e⟩ := List.getElem?_eq_some_iff.1 hi
  rw [List.find?_eq_some_iff_getElem]
  refine ⟨hy, i, h, e, fun j hj => ?_⟩
  rw [hno j _ hj (List.getElem?_eq_getElem (by omega))]; rfl
theorem both_miss (s : Int) (may : List Bool) (l : List Int) (hno : ∀ j y, j < l.length → l[j]? = some y → bothB s may y = false) : l.find? (bothB s may) = none := by
  rw [List.find?_eq_none]
  intro x hx
  obtain ⟨j, hj, e⟩ := List.mem_iff_getElem.1 hx
  rw [hno j x hj (by rw [List.getElem?_eq_getElem hj, e])]; simp
theorem both_next {s : Int} {may : List Bool} {l : List Int} {i : Nat} {x : Int} (h : ∀ j y, j < i → l[j]? = some y → bothB s may y = false) (hx : l[i]? = some x) (hi : bothB s may x = false) : ∀ j y, j < i + 1 → l[j]? = some y → bothB s may y = false := by
  intro j y hj hy
  rcases Nat.lt_or_ge j i with h1 | h1
  · exact h j y h1 hy
  · obtain rfl : j = i := by omega
    rw [hx] at hy
    obtain rfl := Option.some.inj hy
    exact hi
def RelC (k : Nat) (s : Int) (l : List Int) (may : List Bool) (w5 : World) (v18 : Value) (wr : World) : Prop :=
  ∃ i : Nat, v18 = .int .i64 i ∧ i ≤ k ∧ (∀ j y, j < i → l[j]? = some y → bothB s may y = false) ∧ RowKit.Below w5.heap.size w5 wr
set_option maxHeartbeats 4000000 in
set_option maxRecDepth 100000 in
theorem refnode_own (n f : Int) (A : Option Addr) (ca : Nat) (cs : List Int) (B : Option Addr) (cb : Nat) (ds : List (List Int)) (m : Int) (s : Nat) (hs : s < 256) (nd cpu cur : Int) (M : Option Addr) (cm : Nat) (may : List Bool) (w : World) (hr2 : Kd.C (Kd.int .i64) w A cs.length cs) (hca : cs.length ≤ ca) (hr3 : Kd.C (Kd.slice 3 (Kd.int .i64)) w B ds.length ds) (hcb : ds.length ≤ cb) (hrm : Kd.C Kd.bool w M may.length may) :
    Calls Try.prog 24 #[.agg #[.int .i64 n, .int .i64 f, .slice A cs.length ca, .slice B ds.length cb], .agg #[.int .i64 m, .int .u8 s, .int .i64 nd], .int .i64 cpu, .int .i64 cur, .slice M may.length cm] w fun e w' => e = .returned (.tuple #[.agg #[.int .i64 (chV n f cs ds m s nd cpu cur may).1, .int .i64 (chV n f cs ds m s nd cpu cur may).2.1, .int .i64 (chV n f cs ds m s nd cpu cur may).2.2.1], .int .i64 (chV n f cs ds m s nd cpu cur may).2.2.2]) ∧ RowKit.Below w.heap.size w w' := by
  have HC2 := Aside0.mk hr2
  have HC3 := Aside0.mk hr3
  have HCM := Aside0.mk hrm
  obtain ⟨c, hc⟩ : ∃ c, chk n f cs ds = c := ⟨_, rfl⟩
  have HCK := Aside0.mk (show ∀ W : World, RowKit.Below w.heap.size w W → Calls Try.prog 16 #[.agg #[.int .i64 n, .int .i64 f, .slice A cs.length ca, .slice B ds.length cb]] W (fun e w' => e = .returned (.int .i64 c) ∧ RowKit.Below W.heap.size W w') from fun W hW =>
    messuageref03_Check.calls 200 n f A ca cs B cb ds c W (Kd.C_below HC2.out hW) hca (Kd.C_below HC3.out hW) hcb (by rw [r03_f n f cs ds HC3.out.2.1 HC2.out.2.1, hc]))
  clear hr2 hr3 hrm
  by_cases hc0 : c = 0
  · subst hc0
    by_cases hcpu : cpu < 0 ∨ (cs.length : Int) ≤ cpu
    · have HV := Aside0.mk (show chV n f cs ds m s nd cpu cur may = (0, 0, 0, 11) from by unfold chV; rw [if_pos hc, if_pos hcpu])
      clear hc
      rw [HV.out]
      by_cases hn0 : cpu < 0
      · have b1 : decide (cpu < 0) = true := decide_eq_true hn0
        clear hcpu
        go_enter Try.func24, Try.ntmps24
        go_wp2_with (go_at_call 16; (with_reducible refine (HCK.out _ (below_alloc (below_alloc (below_alloc (RowKit.Below.refl w.heap.size w) _) _) _)).mono ?_); rintro e_ w1 ⟨rfl, hb⟩; have HX := Aside0.mk ((((Blk.new w #[.int .i64 n, .int .i64 f, .slice A cs.length ca, .slice B ds.length cb] 25).alloc _).alloc _).below hb); have HP := Aside0.mk (((Blk.new1 w _ #[.int .i64 m, .int .u8 s, .int .i64 nd] 49).alloc _).below hb); have HR := Aside0.mk ((Blk.new2 w _ _ #[.int .i64 0, .int .i64 0, .int .i64 0] 59).below hb); have HB := Aside0.mk (below_then (below_alloc (below_alloc (below_alloc (RowKit.Below.refl w.heap.size w) _) _) _) (below_alloc (below_alloc (below_alloc (RowKit.Below.refl w.heap.size w) _) _) _).size hb); clear hb; have c0 := HX.out.at 0 (.int .i64 n) rfl; have c1 := HX.out.at 1 (.int .i64 f) rfl; have c2 := HX.out.at 2 (.slice A cs.length ca) rfl; have c3 := HX.out.at 3 (.slice B ds.length cb) rfl; have p0 := HP.out.at 0 (.int .i64 m) rfl; have p1 := HP.out.at 1 (.int .u8 s) rfl; have p2 := HP.out.at 2 (.int .i64 nd) rfl; have r0 := HR.out.at 0 (.int .i64 0) rfl; have r1 := HR.out.at 1 (.int .i64 0) rfl; have r2 := HR.out.at 2 (.int .i64 0) rfl; have f0 := HR.out.fz 0; have f1 := HR.out.fz 1; have f2 := HR.out.fz 2)
        refine bodyPost_ret (results_ct rfl _ _ (w.heap.size + 1 + 1) 59 #[(.int .i64 0), (.int .i64 0), (.int .i64 0)] (0, 0) _ rfl (HR.out.put3 (.int .i64 0) (.int .i64 0) (.int .i64 0)) Try.underlying59 rfl (by kernel_rfl)) rfl ?_
        exact ⟨rfl, below_put3 HB.out (by omega) _ _ _⟩
      · have hn1 : (cs.length : Int) ≤ cpu := by omega
        have b1 : decide (cpu < 0) = false := decide_eq_false hn0
        have b2 : decide ((cs.length : Int) ≤ cpu) = true := decide_eq_true hn1
        clear hcpu
        go_enter Try.func24, Try.ntmps24
        go_wp2_with (go_at_call 16; (with_reducible refine (HCK.out _ (below_alloc (below_alloc (below_alloc (RowKit.Below.refl w.heap.size w) _) _) _)).mono ?_); rintro e_ w1 ⟨rfl, hb⟩; have HX := Aside0.mk ((((Blk.new w #[.int .i64 n, .int .i64 f, .slice A cs.length ca, .slice B ds.length cb] 25).alloc _).alloc _).below hb); have HP := Aside0.mk (((Blk.new1 w _ #[.int .i64 m, .int .u8 s, .int .i64 nd] 49).alloc _).below hb); have HR := Aside0.mk ((Blk.new2 w _ _ #[.int .i64 0, .int .i64 0, .int .i64 0] 59).below hb); have HB := Aside0.mk (below_then (below_alloc (below_alloc (below_alloc (RowKit.Below.refl w.heap.size w) _) _) _) (below_alloc (below_alloc (below_alloc (RowKit.Below.refl w.heap.size w) _) _) _).size hb); clear hb; have c0 := HX.out.at 0 (.int .i64 n) rfl; have c1 := HX.out.at 1 (.int .i64 f) rfl; have c2 := HX.out.at 2 (.slice A cs.length ca) rfl; have c3 := HX.out.at 3 (.slice B ds.length cb) rfl; have p0 := HP.out.at 0 (.int .i64 m) rfl; have p1 := HP.out.at 1 (.int .u8 s) rfl; have p2 := HP.out.at 2 (.int .i64 nd) rfl; have r0 := HR.out.at 0 (.int .i64 0) rfl; have r1 := HR.out.at 1 (.int .i64 0) rfl; have r2 := HR.out.at 2 (.int .i64 0) rfl; have f0 := HR.out.fz 0; have f1 := HR.out.fz 1; have f2 := HR.out.fz 2)
        refine bodyPost_ret (results_ct rfl _ _ (w.heap.size + 1 + 1) 59 #[(.int .i64 0), (.int .i64 0), (.int .i64 0)] (0, 0) _ rfl (HR.out.put3 (.int .i64 0) (.int .i64 0) (.int .i64 0)) Try.underlying59 rfl (by kernel_rfl)) rfl ?_
        exact ⟨rfl, below_put3 HB.out (by omega) _ _ _⟩
    · obtain ⟨k, rfl, h1, h8, hdl, hrl, hfits⟩ := chk_zero hc
      obtain ⟨i, rfl⟩ : ∃ i : Nat, cpu = (i : Int) := ⟨cpu.toNat, by omega⟩
      have hi : i < cs.length := by omega
      have b1 : decide ((i : Int) < 0) = false := decide_eq_false (by omega)
      have b2 : decide (cs.length ≤ i) = false := decide_eq_false (by omega)
      have i0 : (0 : Int) ≤ (i : Int) := by omega
      have iI : (i : Int) < (cs.length : Int) := by omega
      obtain ⟨pe, hpe⟩ : ∃ pe, polR m s nd k = pe := ⟨_, rfl⟩
      have HPE := Aside0.mk (show ∀ W : World, Calls Try.prog 29 #[.agg #[.int .i64 m, .int .u8 s, .int .i64 nd], .int .i64 k] W (fun e w' => e = .returned (.int .i64 pe) ∧ RowKit.Below W.heap.size W w') from fun W => messuageref10_Check.calls 20 m s nd k pe W (by rw [rcheck_f m s hs nd k h1 h8, hpe]))
      by_cases hp0 : pe = 0
      · subst hp0
        obtain ⟨own, hown⟩ : ∃ own, rd cs (i : Int) = own := ⟨_, rfl⟩
        obtain ⟨oi, o2⟩ : 0 ≤ own ∧ own < k := by
          rw [← hown]
          unfold rd
          rw [Int.toNat_natCast, List.getD_eq_getElem?_getD, List.getElem?_eq_getElem hi]
          exact chk_cpus hc _ (List.getElem_mem hi)
        obtain ⟨st, hst⟩ : ∃ st, startR m s nd own cur = st := ⟨_, rfl⟩
        obtain ⟨x, y⟩ := st
        obtain ⟨x0, xk⟩ := start_in m s hs nd k h1 h8 own cur oi o2 hpe
        rw [hst] at x0 xk
        simp only at x0 xk
        obtain ⟨a, rfl⟩ : ∃ a : Nat, x = (a : Int) := ⟨x.toNat, by omega⟩
        have he0 : erN (k : Int) f cs ds (a : Int) = 0 := by unfold erN; rw [if_pos hc, if_neg (by omega)]
        obtain ⟨k', a', hk', ha', hak, _, _, _, hf⟩ := er_zero he0
        obtain rfl : k = k' := by omega
        obtain rfl : a = a' := by omega
        clear hk' ha'
        obtain ⟨o, ho⟩ : ∃ o, nearR may (inL (permR m s k) (ordL ds a k)) = o := ⟨_, rfl⟩
        have HV := Aside0.mk (show chV (k : Int) f cs ds m s nd (i : Int) cur may = (o.getD 0, (a : Int), y, if o.isSome = true then 0 else 5) from by
          unfold chV
          rw [if_pos hc, if_neg hcpu, if_pos hpe, hown, hst, Int.toNat_natCast, Int.toNat_natCast, ho])
        obtain ⟨pm, hpm⟩ : ∃ pm, permR m s k = pm := ⟨_, rfl⟩
        obtain ⟨l, hl⟩ : ∃ l, ordL ds a k = l := ⟨_, rfl⟩
        have HLL := Aside0.mk (show l.length = k from hl ▸ ordL_len ds a k hf)
        have HGET := Aside0.mk (ordL_get ds a k hf)
        have HPM := Aside0.mk (show ∀ W : World, Calls Try.prog 26 #[.agg #[.int .i64 m, .int .u8 s, .int .i64 nd], .int .i64 k] W (fun e w' => e = .returned (.int .u8 pm) ∧ RowKit.Below W.heap.size W w') from fun W => messuageref10_Permitted.calls 20 m s nd k pm W (by rw [rperm_f m s nd k h8, hpm]))
        have HST := Aside0.mk (show ∀ W : World, Calls Try.prog 40 #[.agg #[.int .i64 m, .int .u8 s, .int .i64 nd], .int .i64 own, .int .i64 cur] W (fun e w' => e = .returned (.tuple #[.int .i64 a, .int .i64 y]) ∧ RowKit.Below W.heap.size W w') from fun W => messuageref10_Start.calls 20 m s nd own cur a y W (by rw [rstart_f m s hs nd own cur, hst]))
        have HRO0 := Aside0.mk (show ∀ W : World, RowKit.Below w.heap.size w W → Calls Try.prog 19 #[.agg #[.int .i64 k, .int .i64 f, .slice A cs.length ca, .slice B ds.length cb], .int .i64 a] W (fun e w' => ∃ A3 c3, e = .returned (.slice A3 k c3) ∧ k ≤ c3 ∧ Kd.C (Kd.int .i64) w' A3 k l ∧ RowKit.Below W.heap.size W w') from fun W hW => by
          refine (messuageref04_Order.calls 3000 (k : Int) f A ca cs B cb ds (a : Int) l W (Kd.C_below HC2.out hW) hca (Kd.C_below HC3.out hW) hcb (by rw [r04_f k h8 f cs ds a hak hdl (hrl a hak) hf 3000 (Nat.le_refl _), hl])).mono ?_
          rintro e_ w_ ⟨v_, rfl, hR, hb⟩
          obtain ⟨A3, c3, rfl, h3, h4⟩ := R_open hR HLL.out
          exact ⟨A3, c3, rfl, h3, h4, hb⟩)
        rw [hl] at HGET
        rw [hpm, hl, near_both] at ho
        have HO := Aside0.mk ho
        have HOW := Aside0.mk hown
        rw [HV.out]
        clear hc hcpu hdl hrl hfits hpe hown hst he0 ho HV hpm hl oi o2 x0 xk hf hak
        go_enter Try.func24, Try.ntmps24
        go_upto_region 9 with (first | (go_at_call 16; (with_reducible refine (HCK.out _ (below_alloc (below_alloc (below_alloc (RowKit.Below.refl w.heap.size w) _) _) _)).mono ?_); rintro e_ w1 ⟨rfl, hb⟩; have HX := Aside0.mk ((((Blk.new w #[.int .i64 k, .int .i64 f, .slice A cs.length ca, .slice B ds.length cb] 25).alloc _).alloc _).below hb); have HP := Aside0.mk (((Blk.new1 w _ #[.int .i64 m, .int .u8 s, .int .i64 nd] 49).alloc _).below hb); have HR := Aside0.mk ((Blk.new2 w _ _ #[.int .i64 0, .int .i64 0, .int .i64 0] 59).below hb); have HB := Aside0.mk (below_then (below_alloc (below_alloc (below_alloc (RowKit.Below.refl w.heap.size w) _) _) _) (below_alloc (below_alloc (below_alloc (RowKit.Below.refl w.heap.size w) _) _) _).size hb); clear hb; have c0 := HX.out.at 0 (.int .i64 k) rfl; have c1 := HX.out.at 1 (.int .i64 f) rfl; have c2 := HX.out.at 2 (.slice A cs.length ca) rfl; have c3 := HX.out.at 3 (.slice B ds.length cb) rfl; have p0 := HP.out.at 0 (.int .i64 m) rfl; have p1 := HP.out.at 1 (.int .u8 s) rfl; have p2 := HP.out.at 2 (.int .i64 nd) rfl; have r0 := HR.out.at 0 (.int .i64 0) rfl; have r1 := HR.out.at 1 (.int .i64 0) rfl; have r2 := HR.out.at 2 (.int .i64 0) rfl; have f0 := HR.out.fz 0; have f1 := HR.out.fz 1; have f2 := HR.out.fz 2) | (go_at_call 29; (with_reducible refine (HPE.out _).mono ?_); rintro e_ w2 ⟨rfl, hb⟩; have n0_ := Aside0.mk (below_then HB.out HB.out.size hb); have n1_ := Aside0.mk (HX.out.below hb); have n2_ := Aside0.mk (HP.out.below hb); have n3_ := Aside0.mk (HR.out.below hb); clear HB HX HP HR c0 c1 c2 c3 p0 p1 p2 r0 r1 r2 f0 f1 f2 hb; have HB := n0_; have HX := n1_; have HP := n2_; have HR := n3_; clear n0_ n1_ n2_ n3_; have c0 := HX.out.at 0 (.int .i64 k) rfl; have c1 := HX.out.at 1 (.int .i64 f) rfl; have c2 := HX.out.at 2 (.slice A cs.length ca) rfl; have c3 := HX.out.at 3 (.slice B ds.length cb) rfl; have p0 := HP.out.at 0 (.int .i64 m) rfl; have p1 := HP.out.at 1 (.int .u8 s) rfl; have p2 := HP.out.at 2 (.int .i64 nd) rfl; have r0 := HR.out.at 0 (.int .i64 0) rfl; have r1 := HR.out.at 1 (.int .i64 0) rfl; have r2 := HR.out.at 2 (.int .i64 0) rfl; have f0 := HR.out.fz 0; have f1 := HR.out.fz 1; have f2 := HR.out.fz 2))
        obtain ⟨ad, rfl, q0⟩ := Kd.at_int (Kd.C_below HC2.out HB.out) (i : Int) i0 iI
        rw [Int.toNat_natCast, HOW.out] at q0
        refine start_ (n := 13) (S := fun w' => w'.cell? ⟨w.heap.size, 2, none⟩ = some (.slice (some ad) cs.length ca) ∧ w'.cell? ⟨w.heap.size + 1, 0, none⟩ = some (.int .i64 m) ∧ w'.cell? ⟨w.heap.size + 1, 1, none⟩ = some (.int .u8 s) ∧ w'.cell? ⟨w.heap.size + 1, 2, none⟩ = some (.int .i64 nd) ∧ w'.cell? (ad.add i) = some (.int .i64 own)) (ds := [7]) #[false, false, false, false, false, false, false, false, false, false, false, false, false] (by kernel_rfl) rfl rfl ⟨c2, p0, p1, p2, q0⟩ (fun hHeld => ?_)
        have hd_ := below_drew (RowKit.Below.refl w2.heap.size w2)
        have n0_ := Aside0.mk (below_then HB.out HB.out.size hd_)
        have n1_ := Aside0.mk (HX.out.below hd_)
        have n2_ := Aside0.mk (HP.out.below hd_)
        have n3_ := Aside0.mk (HR.out.below hd_)
        clear HB HX HP HR c0 c1 c2 c3 p0 p1 p2 r0 r1 r2 f0 f1 f2 hd_
        have HB := n0_
        have HX := n1_
        have HP := n2_
        have HR := n3_
        clear n0_ n1_ n2_ n3_
        have c0 := HX.out.at 0 (.int .i64 k) rfl
        have c1 := HX.out.at 1 (.int .i64 f) rfl
        have c2 := HX.out.at 2 (.slice (some ad) cs.length ca) rfl
        have c3 := HX.out.at 3 (.slice B ds.length cb) rfl
        have p0 := HP.out.at 0 (.int .i64 m) rfl
        have p1 := HP.out.at 1 (.int .u8 s) rfl
        have p2 := HP.out.at 2 (.int .i64 nd) rfl
        have r0 := HR.out.at 0 (.int .i64 0) rfl
        have r1 := HR.out.at 1 (.int .i64 0) rfl
        have r2 := HR.out.at 2 (.int .i64 0) rfl
        have f0 := HR.out.fz 0
        have f1 := HR.out.fz 1
        have f2 := HR.out.fz 2
        clear q0
        generalize w2.drew = wd at *
        refine pure_ (i := 1) (N := some 45) (v := ?_) (a' := ?_) #[false, true, false, false, false, false, false, false, false, false, false, false, false] rfl rfl (by kernel_rfl) (fun _ _ _ h => h) (Or.inl ⟨by rfl, ?_⟩) ?_ ?_
        rotate_left
        · intro w'
          go_simp
          with_reducible rfl
        rotate_left
        · simp only [Act.put, List.setIfInBounds_toArray, List.set_cons_zero, List.set_cons_succ, i64_w, i32_w]
          rfl
        refine pure_ (i := 3) (N := some 47) (v := ?_) (a' := ?_) #[false, true, false, true, false, false, false, false, false, false, false, false, false] rfl rfl (by kernel_rfl) (fun _ _ _ h => h) (Or.inl ⟨by rfl, ?_⟩) ?_ ?_
        rotate_left
        · intro w'
          go_simp
          with_reducible rfl
        rotate_left
        · simp only [Act.put, List.setIfInBounds_toArray, List.set_cons_zero, List.set_cons_succ, i64_w, i32_w]
          rfl
        refine pure_ (i := 6) (N := some 50) (v := ?_) (a' := ?_) #[false, true, false, true, false, false, true, false, false, false, false, false, false] rfl rfl (by kernel_rfl) (fun _ _ _ h => h) (Or.inl ⟨by rfl, ?_⟩) ?_ ?_
        rotate_left
        · intro w'
          go_simp
          with_reducible rfl
        rotate_left
        · simp only [Act.put, List.setIfInBounds_toArray, List.set_cons_zero, List.set_cons_succ, i64_w, i32_w]
          rfl
        refine take_ (i := 0) (N := some 44) (v := ?_) (a' := ?_) #[true, true, false, true, false, false, true, false, false, false, false, false, false] rfl rfl (by kernel_rfl) (fun _ _ _ h => h) (Or.inl ⟨by rfl, ?_⟩) hHeld ?_ ?_
        rotate_left
        · rintro w' ⟨s0, s1, s2, s3, s4⟩
          go_simp
          with_reducible rfl
        rotate_left
        · simp only [Act.put, List.setIfInBounds_toArray, List.set_cons_zero, List.set_cons_succ, i64_w, i32_w]
          rfl
        refine take_ (i := 2) (N := some 46) (v := ?_) (a' := ?_) #[true, true, true, true, false, false, true, false, false, false, false, false, false] rfl rfl (by kernel_rfl) (fun _ _ _ h => h) (Or.inl ⟨by rfl, ?_⟩) hHeld ?_ ?_
        rotate_left
        · rintro w' ⟨s0, s1, s2, s3, s4⟩
          go_simp
          with_reducible rfl
        rotate_left
        · simp only [Act.put, List.setIfInBounds_toArray, List.set_cons_zero, List.set_cons_succ, i64_w, i32_w]
          rfl
        refine pure_ (i := 4) (N := some 48) (v := ?_) (a' := ?_) #[true, true, true, true, true, false, true, false, false, false, false, false, false] rfl rfl (by kernel_rfl) (fun _ _ _ h => h) (Or.inl ⟨by rfl, ?_⟩) ?_ ?_
        rotate_left
        · intro w'
          go_simp
          with_reducible rfl
        rotate_left
        · simp only [Act.put, List.setIfInBounds_toArray, List.set_cons_zero, List.set_cons_succ, i64_w, i32_w]
          rfl
        refine take_ (i := 5) (N := some 49) (v := ?_) (a' := ?_) #[true, true, true, true, true, true, true, false, false, false, false, false, false] rfl rfl (by kernel_rfl) (fun _ _ _ h => h) (Or.inl ⟨by rfl, ?_⟩) hHeld ?_ ?_
        rotate_left
        · rintro w' ⟨s0, s1, s2, s3, s4⟩
          go_simp
          with_reducible rfl
        rotate_left
        · simp only [Act.put, List.setIfInBounds_toArray, List.set_cons_zero, List.set_cons_succ, i64_w, i32_w]
          rfl
        refine last_ (i := 7) (N := some 51) #[true, true, true, true, true, true, true, true, false, false, false, false, false] rfl rfl (by kernel_rfl) (by decide) (fun K hK => ?_)
        refine goes_ Try.func40 (by kernel_rfl) rfl #[.agg #[.int .i64 m, .int .u8 s, .int .i64 nd], .int .i64 own, .int .i64 cur] (by rfl) rfl rfl (by simp only [List.map_toArray, List.map_cons, List.map_nil]; rfl) ?_
        with_reducible refine (HST.out _).mono ?_
        rintro e_ w3 ⟨rfl, hb⟩
        refine ⟨_, rfl, ?_⟩
        have n0_ := Aside0.mk (below_then HB.out HB.out.size hb)
        have n1_ := Aside0.mk (HX.out.below hb)
        have n2_ := Aside0.mk (HP.out.below hb)
        have n3_ := Aside0.mk (HR.out.below hb)
        clear HB HX HP HR c0 c1 c2 c3 p0 p1 p2 r0 r1 r2 f0 f1 f2 hb
        have HB := n0_
        have HX := n1_
        have HP := n2_
        have HR := n3_
        clear n0_ n1_ n2_ n3_
        have c0 := HX.out.at 0 (.int .i64 k) rfl
        have c1 := HX.out.at 1 (.int .i64 f) rfl
        have c2 := HX.out.at 2 (.slice (some ad) cs.length ca) rfl
        have c3 := HX.out.at 3 (.slice B ds.length cb) rfl
        have p0 := HP.out.at 0 (.int .i64 m) rfl
        have p1 := HP.out.at 1 (.int .u8 s) rfl
        have p2 := HP.out.at 2 (.int .i64 nd) rfl
        have r0 := HR.out.at 0 (.int .i64 0) rfl
        have r1 := HR.out.at 1 (.int .i64 0) rfl
        have r2 := HR.out.at 2 (.int .i64 0) rfl
        have f0 := HR.out.fz 0
        have f1 := HR.out.fz 1
        have f2 := HR.out.fz 2
        refine hK.out _ _ ?_
        clear hK K
        refine norm_ (a' := ?_) ?_ ?_
        rotate_left
        · show Act.put _ (some 51) _ = _
          simp only [Act.put, List.setIfInBounds_toArray, List.set_cons_zero, List.set_cons_succ, i64_w, i32_w]
          rfl
        refine pure_ (i := 8) (N := some 43) (v := ?_) (a' := ?_) #[true, true, true, true, true, true, true, true, true, false, false, false, false] rfl rfl (by kernel_rfl) (fun _ _ _ h => h) (Or.inl ⟨by rfl, ?_⟩) ?_ ?_
        rotate_left
        · intro w'
          go_simp
          with_reducible rfl
        rotate_left
        · simp only [Act.put, List.setIfInBounds_toArray, List.set_cons_zero, List.set_cons_succ, i64_w, i32_w]
          rfl
        refine pure_ (i := 9) (N := some 52) (v := ?_) (a' := ?_) #[true, true, true, true, true, true, true, true, true, true, false, false, false] rfl rfl (by kernel_rfl) (fun _ _ _ h => h) (Or.inl ⟨by rfl, ?_⟩) ?_ ?_
        rotate_left
        · intro w'
          go_simp
          with_reducible rfl
        rotate_left
        · simp only [Act.put, List.setIfInBounds_toArray, List.set_cons_zero, List.set_cons_succ, i64_w, i32_w]
          rfl
        refine pure_ (i := 10) (N := some 53) (v := ?_) (a' := ?_) #[true, true, true, true, true, true, true, true, true, true, true, false, false] rfl rfl (by kernel_rfl) (fun _ _ _ h => h) (Or.inl ⟨by rfl, ?_⟩) ?_ ?_
        rotate_left
        · intro w'
          go_simp
          with_reducible rfl
        rotate_left
        · simp only [Act.put, List.setIfInBounds_toArray, List.set_cons_zero, List.set_cons_succ, i64_w, i32_w]
          rfl
        refine pure_ (i := 11) (N := some 14) (v := ?_) (a' := ?_) #[true, true, true, true, true, true, true, true, true, true, true, true, false] rfl rfl (by kernel_rfl) (fun _ _ _ h => h) (Or.inl ⟨by rfl, ?_⟩) ?_ ?_
        rotate_left
        · intro w'
          go_simp
          with_reducible rfl
        rotate_left
        · simp only [Act.put, List.setIfInBounds_toArray, List.set_cons_zero, List.set_cons_succ, i64_w, i32_w]
          rfl
        refine pure_ (i := 12) (N := some 15) (v := ?_) (a' := ?_) #[true, true, true, true, true, true, true, true, true, true, true, true, true] rfl rfl (by kernel_rfl) (fun _ _ _ h => h) (Or.inl ⟨by rfl, ?_⟩) ?_ ?_
        rotate_left
        · intro w'
          go_simp
          with_reducible rfl
        rotate_left
        · simp only [Act.put, List.setIfInBounds_toArray, List.set_cons_zero, List.set_cons_succ, i64_w, i32_w]
          rfl
        refine done_ (by kernel_rfl) ?_
        go_upto_region 12 with (first | (go_at_call 26; (with_reducible refine (HPM.out _).mono ?_); rintro e_ w4 ⟨rfl, hb⟩; have n0_ := Aside0.mk (below_then HB.out HB.out.size hb); have n1_ := Aside0.mk (HX.out.below hb); have n2_ := Aside0.mk (HP.out.below hb); have n3_ := Aside0.mk (HR.out.below hb); clear HB HX HP HR c0 c1 c2 c3 p0 p1 p2 r0 r1 r2 f0 f1 f2 hb; have HB := n0_; have HX := n1_; have HP := n2_; have HR := n3_; clear n0_ n1_ n2_ n3_; have c0 := HX.out.at 0 (.int .i64 k) rfl; have c1 := HX.out.at 1 (.int .i64 f) rfl; have c2 := HX.out.at 2 (.slice (some ad) cs.length ca) rfl; have c3 := HX.out.at 3 (.slice B ds.length cb) rfl; have p0 := HP.out.at 0 (.int .i64 m) rfl; have p1 := HP.out.at 1 (.int .u8 s) rfl; have p2 := HP.out.at 2 (.int .i64 nd) rfl; have r0 := HR.out.at 0 (.int .i64 0) rfl; have r1 := HR.out.at 1 (.int .i64 0) rfl; have r2 := HR.out.at 2 (.int .i64 0) rfl; have f0 := HR.out.fz 0; have f1 := HR.out.fz 1; have f2 := HR.out.fz 2) | (go_at_call 19; (with_reducible refine (HRO0.out _ HB.out).mono ?_); rintro e_ w5 ⟨A4, c4_, rfl, hc4, hC4, hb⟩; have HRO := Aside0.mk hC4; clear hC4; have n0_ := Aside0.mk (below_then HB.out HB.out.size hb); have n1_ := Aside0.mk (HX.out.below hb); have n2_ := Aside0.mk (HP.out.below hb); have n3_ := Aside0.mk (HR.out.below hb); clear HB HX HP HR c0 c1 c2 c3 p0 p1 p2 r0 r1 r2 f0 f1 f2 hb; have HB := n0_; have HX := n1_; have HP := n2_; have HR := n3_; clear n0_ n1_ n2_ n3_; have c0 := HX.out.at 0 (.int .i64 k) rfl; have c1 := HX.out.at 1 (.int .i64 f) rfl; have c2 := HX.out.at 2 (.slice (some ad) cs.length ca) rfl; have c3 := HX.out.at 3 (.slice B ds.length cb) rfl; have p0 := HP.out.at 0 (.int .i64 m) rfl; have p1 := HP.out.at 1 (.int .u8 s) rfl; have p2 := HP.out.at 2 (.int .i64 nd) rfl; have r0 := HR.out.at 0 (.int .i64 0) rfl; have r1 := HR.out.at 1 (.int .i64 0) rfl; have r2 := HR.out.at 2 (.int .i64 0) rfl; have f0 := HR.out.fz 0; have f1 := HR.out.fz 1; have f2 := HR.out.fz 2))
        have H0 := Aside0.mk (show RelC k pm l may w5 (.int .i64 0) w5 from ⟨0, rfl, Nat.zero_le _, fun j y hj => absurd hj (Nat.not_lt_zero j), RowKit.Below.refl _ _⟩)
        go_wp2_with fail
        clear c0 c1 c2 c3 p0 p1 p2 r0 r1 r2 f0 f1 f2 HX HP HPE HPM HST HRO0 HCK b1 b2 i0 iI hi
        go_loopw [18] (fun v18 wr => RelC k pm l may w5 v18 wr) (fun v18 _ => k - (intOf v18).toNat)
        case atStart => exact H0.out
        case round =>
          clear H0
          obtain ⟨i, rfl, hi, hno, hB⟩ := hrel
          have HNO := Aside0.mk hno
          have HBW := Aside0.mk hB
          clear hno hB
          by_cases hik : i < k
          · have hib : decide (i < k) = true := decide_eq_true hik
            have i0 : (0 : Int) ≤ (i : Int) := by omega
            have iI : (i : Int) < (k : Int) := by omega
            obtain ⟨x, hx, hxk⟩ := HGET.out i hik
            obtain ⟨ad4, rfl, m0⟩ := Kd.at_int (Kd.C_below HRO.out HBW.out) (i : Int) i0 iI
            rw [Int.toNat_natCast, show rd l (i : Int) = (x : Int) from by unfold rd; rw [Int.toNat_natCast, List.getD_eq_getElem?_getD, hx]; rfl] at m0
            have HXI := Aside0.mk hx
            clear hx
            obtain ⟨hh, hhv⟩ : ∃ hh, hasB pm (x : Int) = hh := ⟨_, rfl⟩
            have HHA := Aside0.mk (show ∀ W : World, Calls Try.prog 27 #[.int .u8 pm, .int .i64 x] W (fun e w' => e = .returned (.bool hh) ∧ Drawn0 W w') from fun W => messuageref01_Has.calls pm x hh W (by rw [has_f, hhv]))
            have HHV := Aside0.mk hhv
            clear hhv
            have x0 : (0 : Int) ≤ (x : Int) := by omega
            cases hh with
            | false =>
              have HOK := Aside0.mk (show bothB pm may (x : Int) = false by unfold bothB; rw [HHV.out]; rfl)
              go_wp2_with (go_at_call 27; (with_reducible refine (HHA.out _).mono ?_); rintro e_ w6 ⟨rfl, hb0⟩; have n0_ := Aside0.mk (below_then HBW.out HBW.out.size hb0.below); have n1_ := pw_cell_below hb0.below m0; clear HBW m0 hb0; have HBW := n0_; have m0 := n1_; clear n0_ n1_)
              go_roundw
              case rel => exact ⟨i + 1, by go_num, by omega, both_next HNO.out HXI.out HOK.out, HBW.out⟩
              case measure => simp [intOf]; omega
            | true =>
              by_cases hxm : x < may.length
              · have b4 : decide (x < may.length) = true := decide_eq_true hxm
                have xI : (x : Int) < (may.length : Int) := by omega
                obtain ⟨adm, rfl, m1⟩ := Kd.at_bool (Kd.C_below HCM.out (below_then HB.out HB.out.size HBW.out)) (x : Int) x0 xI
                rw [Int.toNat_natCast] at m1
                obtain ⟨mb, hmv⟩ : ∃ mb, rdOf false may (x : Int) = mb := ⟨_, rfl⟩
                rw [hmv] at m1
                have HOK := Aside0.mk (show bothB pm may (x : Int) = mb by unfold bothB okB; rw [HHV.out, hmv, decide_eq_true xI]; rfl)
                clear hmv xI
                cases mb with
                | false =>
                  go_wp2_with (go_at_call 27; (with_reducible refine (HHA.out _).mono ?_); rintro e_ w6 ⟨rfl, hb0⟩; have n0_ := Aside0.mk (below_then HBW.out HBW.out.size hb0.below); have n1_ := pw_cell_below hb0.below m0; have n2_ := pw_cell_below hb0.below m1; clear HBW m0 m1 hb0; have HBW := n0_; have m0 := n1_; clear n0_ n1_; have m1 := n2_; clear n2_)
                  go_roundw
                  case rel => exact ⟨i + 1, by go_num, by omega, both_next HNO.out HXI.out HOK.out, HBW.out⟩
                  case measure => simp [intOf]; omega
                | true =>
                  have hoo := both_hit pm may l i x HXI.out HNO.out HOK.out
                  rw [HO.out] at hoo
                  subst hoo
                  go_wp2_with (go_at_call 27; (with_reducible refine (HHA.out _).mono ?_); rintro e_ w6 ⟨rfl, hb0⟩; have n0_ := Aside0.mk (below_then HBW.out HBW.out.size hb0.below); have n1_ := pw_cell_below hb0.below m0; have n2_ := pw_cell_below hb0.below m1; clear HBW m0 m1 hb0; have HBW := n0_; have m0 := n1_; clear n0_ n1_; have m1 := n2_; clear n2_; have n0_ := Aside0.mk (HR.out.below HBW.out); have n1_ := Aside0.mk (below_then HB.out HB.out.size HBW.out); clear HR HB; have HR := n0_; have HB := n1_; clear n0_ n1_; have r0 := HR.out.at 0 (.int .i64 0) rfl; have r1 := HR.out.at 1 (.int .i64 0) rfl; have r2 := HR.out.at 2 (.int .i64 0) rfl; have f0 := HR.out.fz 0; have f1 := HR.out.fz 1; have f2 := HR.out.fz 2)
                  refine bodyPost_ret (results_ct rfl _ _ (w.heap.size + 1 + 1) 59 #[(.int .i64 x), (.int .i64 a), (.int .i64 y)] (0, 0) _ rfl (HR.out.put3 (.int .i64 x) (.int .i64 a) (.int .i64 y)) Try.underlying59 rfl (by kernel_rfl)) rfl ?_
                  exact ⟨rfl, below_put3 HB.out (by omega) _ _ _⟩
              · have b4 : decide (x < may.length) = false := decide_eq_false hxm
                have HOK := Aside0.mk (show bothB pm may (x : Int) = false by unfold bothB okB; rw [HHV.out, decide_eq_false (by omega)]; rfl)
                go_wp2_with (go_at_call 27; (with_reducible refine (HHA.out _).mono ?_); rintro e_ w6 ⟨rfl, hb0⟩; have n0_ := Aside0.mk (below_then HBW.out HBW.out.size hb0.below); have n1_ := pw_cell_below hb0.below m0; clear HBW m0 hb0; have HBW := n0_; have m0 := n1_; clear n0_ n1_)
                go_roundw
                case rel => exact ⟨i + 1, by go_num, by omega, both_next HNO.out HXI.out HOK.out, HBW.out⟩
                case measure => simp [intOf]; omega
          · obtain rfl : i = k := by omega
            have hib : decide (i < i) = false := decide_eq_false hik
            have hoo := both_miss pm may l (fun j y hj => HNO.out j y (by rw [HLL.out] at hj; exact hj))
            rw [HO.out] at hoo
            subst hoo
            have n0_ := Aside0.mk (HR.out.below HBW.out)
            have n1_ := Aside0.mk (below_then HB.out HB.out.size HBW.out)
            clear HR HB
            have HR := n0_
            have HB := n1_
            clear n0_ n1_
            have r0 := HR.out.at 0 (.int .i64 0) rfl
            have r1 := HR.out.at 1 (.int .i64 0) rfl
            have r2 := HR.out.at 2 (.int .i64 0) rfl
            have f0 := HR.out.fz 0
            have f1 := HR.out.fz 1
            have f2 := HR.out.fz 2
            go_wp2_with fail
            refine bodyPost_ret (results_ct rfl _ _ (w.heap.size + 1 + 1) 59 #[(.int .i64 0), (.int .i64 a), (.int .i64 y)] (0, 0) _ rfl (HR.out.put3 (.int .i64 0) (.int .i64 a) (.int .i64 y)) Try.underlying59 rfl (by kernel_rfl)) rfl ?_
            exact ⟨rfl, below_put3 HB.out (by omega) _ _ _⟩
      · have HV := Aside0.mk (show chV (k : Int) f cs ds m s nd (i : Int) cur may = (0, 0, 0, pe) from by unfold chV; rw [if_pos hc, if_neg hcpu, if_neg (by rw [hpe]; exact hp0), hpe])
        have b3 : (pe == 0) = false := by simpa using hp0
        have b4 : (pe != 0) = true := by simpa using hp0
        rw [HV.out]
        clear hc hcpu hdl hrl hfits hpe
        go_enter Try.func24, Try.ntmps24
        go_wp2_with (first | (go_at_call 16; (with_reducible refine (HCK.out _ (below_alloc (below_alloc (below_alloc (RowKit.Below.refl w.heap.size w) _) _) _)).mono ?_); rintro e_ w1 ⟨rfl, hb⟩; have HX := Aside0.mk ((((Blk.new w #[.int .i64 k, .int .i64 f, .slice A cs.length ca, .slice B ds.length cb] 25).alloc _).alloc _).below hb); have HP := Aside0.mk (((Blk.new1 w _ #[.int .i64 m, .int .u8 s, .int .i64 nd] 49).alloc _).below hb); have HR := Aside0.mk ((Blk.new2 w _ _ #[.int .i64 0, .int .i64 0, .int .i64 0] 59).below hb); have HB := Aside0.mk (below_then (below_alloc (below_alloc (below_alloc (RowKit.Below.refl w.heap.size w) _) _) _) (below_alloc (below_alloc (below_alloc (RowKit.Below.refl w.heap.size w) _) _) _).size hb); clear hb; have c0 := HX.out.at 0 (.int .i64 k) rfl; have c1 := HX.out.at 1 (.int .i64 f) rfl; have c2 := HX.out.at 2 (.slice A cs.length ca) rfl; have c3 := HX.out.at 3 (.slice B ds.length cb) rfl; have p0 := HP.out.at 0 (.int .i64 m) rfl; have p1 := HP.out.at 1 (.int .u8 s) rfl; have p2 := HP.out.at 2 (.int .i64 nd) rfl; have r0 := HR.out.at 0 (.int .i64 0) rfl; have r1 := HR.out.at 1 (.int .i64 0) rfl; have r2 := HR.out.at 2 (.int .i64 0) rfl; have f0 := HR.out.fz 0; have f1 := HR.out.fz 1; have f2 := HR.out.fz 2) | (go_at_call 29; (with_reducible refine (HPE.out _).mono ?_); rintro e_ w2 ⟨rfl, hb⟩; have n0_ := Aside0.mk (below_then HB.out HB.out.size hb); have n1_ := Aside0.mk (HX.out.below hb); have n2_ := Aside0.mk (HP.out.below hb); have n3_ := Aside0.mk (HR.out.below hb); clear HB HX HP HR c0 c1 c2 c3 p0 p1 p2 r0 r1 r2 f0 f1 f2 hb; have HB := n0_; have HX := n1_; have HP := n2_; have HR := n3_; clear n0_ n1_ n2_ n3_; have c0 := HX.out.at 0 (.int .i64 k) rfl; have c1 := HX.out.at 1 (.int .i64 f) rfl; have c2 := HX.out.at 2 (.slice A cs.length ca) rfl; have c3 := HX.out.at 3 (.slice B ds.length cb) rfl; have p0 := HP.out.at 0 (.int .i64 m) rfl; have p1 := HP.out.at 1 (.int .u8 s) rfl; have p2 := HP.out.at 2 (.int .i64 nd) rfl; have r0 := HR.out.at 0 (.int .i64 0) rfl; have r1 := HR.out.at 1 (.int .i64 0) rfl; have r2 := HR.out.at 2 (.int .i64 0) rfl; have f0 := HR.out.fz 0; have f1 := HR.out.fz 1; have f2 := HR.out.fz 2))
        refine bodyPost_ret (results_ct rfl _ _ (w.heap.size + 1 + 1) 59 #[(.int .i64 0), (.int .i64 0), (.int .i64 0)] (0, 0) _ rfl (HR.out.put3 (.int .i64 0) (.int .i64 0) (.int .i64 0)) Try.underlying59 rfl (by kernel_rfl)) rfl ?_
        exact ⟨rfl, below_put3 HB.out (by omega) _ _ _⟩
  · have HV := Aside0.mk (show chV n f cs ds m s nd cpu cur may = (0, 0, 0, c) from by unfold chV; rw [if_neg (by rw [hc]; exact hc0), hc])
    have b1 : (c == 0) = false := by simpa using hc0
    have b2 : (c != 0) = true := by simpa using hc0
    clear hc
    rw [HV.out]
    go_enter Try.func24, Try.ntmps24
    go_wp2_with (go_at_call 16; (with_reducible refine (HCK.out _ (below_alloc (below_alloc (below_alloc (RowKit.Below.refl w.heap.size w) _) _) _)).mono ?_); rintro e_ w1 ⟨rfl, hb⟩; have HX := Aside0.mk ((((Blk.new w #[.int .i64 n, .int .i64 f, .slice A cs.length ca, .slice B ds.length cb] 25).alloc _).alloc _).below hb); have HP := Aside0.mk (((Blk.new1 w _ #[.int .i64 m, .int .u8 s, .int .i64 nd] 49).alloc _).below hb); have HR := Aside0.mk ((Blk.new2 w _ _ #[.int .i64 0, .int .i64 0, .int .i64 0] 59).below hb); have HB := Aside0.mk (below_then (below_alloc (below_alloc (below_alloc (RowKit.Below.refl w.heap.size w) _) _) _) (below_alloc (below_alloc (below_alloc (RowKit.Below.refl w.heap.size w) _) _) _).size hb); clear hb; have c0 := HX.out.at 0 (.int .i64 n) rfl; have c1 := HX.out.at 1 (.int .i64 f) rfl; have c2 := HX.out.at 2 (.slice A cs.length ca) rfl; have c3 := HX.out.at 3 (.slice B ds.length cb) rfl; have p0 := HP.out.at 0 (.int .i64 m) rfl; have p1 := HP.out.at 1 (.int .u8 s) rfl; have p2 := HP.out.at 2 (.int .i64 nd) rfl; have r0 := HR.out.at 0 (.int .i64 0) rfl; have r1 := HR.out.at 1 (.int .i64 0) rfl; have r2 := HR.out.at 2 (.int .i64 0) rfl; have f0 := HR.out.fz 0; have f1 := HR.out.fz 1; have f2 := HR.out.fz 2)
    refine bodyPost_ret (results_ct rfl _ _ (w.heap.size + 1 + 1) 59 #[(.int .i64 0), (.int .i64 0), (.int .i64 0)] (0, 0) _ rfl (HR.out.put3 (.int .i64 0) (.int .i64 0) (.int .i64 0)) Try.underlying59 rfl (by kernel_rfl)) rfl ?_
    exact ⟨rfl, below_put3 HB.out (by omega) _ _ _⟩
end Go.Proofs.Ytffmhpfdfcpniaa.T
namespace Go.Proofs.Ytffmhpfdfcpniaa.T
open Go.RowKit Go.Proofs.YtffmhpfdfcpniaaW.PrintWords Go.Proofs.YtffmhpfdfcpniaaW.PrintLast Go.Proofs.YtffmhpfdfcpniaaW.PrintMore Go.Proofs.Ytffmhpfdfcpniaa.PH
set_option linter.unusedVariables false
set_option linter.unusedSimpArgs false
def yo0 : Obj := .cells #[.int .i64 1] 3
def yo1 : Obj := .cells #[.int .i64 10, .int .i64 20] 3
def yo2 : Obj := .cells #[.int .i64 20, .int .i64 10] 3
def yo3 (b : Nat) : Obj := .cells #[.slice (some ⟨b + 1, 0, none⟩) 2 2, .slice (some ⟨b + 1 + 1, 0, none⟩) 2 2] 22
def yo4 (b : Nat) : Obj := .cells #[.int .i64 2, .int .i64 4, .slice (some ⟨b, 0, none⟩) 1 1, .slice (some ⟨b + 1 + 1 + 1, 0, none⟩) 2 2] 33
def yw (w : World) : World := ((((w.alloc yo0).alloc yo1).alloc yo2).alloc (yo3 w.heap.size)).alloc (yo4 w.heap.size)
theorem yw_size (w : World) : (yw w).heap.size = w.heap.size + 5 := by unfold yw; simp only [World.size_alloc]
theorem yw0 (w : World) : (yw w).heap[w.heap.size]? = some yo0 := by
  unfold yw
  rw [heap_alloc_old _ _ (by simp only [World.size_alloc]; omega), heap_alloc_old _ _ (by simp only [World.size_alloc]; omega), heap_alloc_old _ _ (by simp only [World.size_alloc]; omega), heap_alloc_old _ _ (by simp only [World.size_alloc]; omega)]
  exact heap_alloc_new _ _
theorem yw1 (w : World) : (yw w).heap[w.heap.size + 1]? = some yo1 := by
  unfold yw
  rw [heap_alloc_old _ _ (by simp only [World.size_alloc]; omega), heap_alloc_old _ _ (by simp only [World.size_alloc]; omega), heap_alloc_old _ _ (by simp only [World.size_alloc]; omega)]
  exact alloc_two _ _ _
theorem yw2 (w : World) : (yw w).heap[w.heap.size + 1 + 1]? = some yo2 := by
  unfold yw
  rw [heap_alloc_old _ _ (by simp only [World.size_alloc]; omega), heap_alloc_old _ _ (by simp only [World.size_alloc]; omega)]
  have := alloc_two (w.alloc yo0) yo1 yo2
  rw [World.size_alloc] at this
  exact this
theorem yw3 (w : World) : (yw w).heap[w.heap.size + 1 + 1 + 1]? = some (yo3 w.heap.size) := by
  unfold yw
  rw [heap_alloc_old _ _ (by simp only [World.size_alloc]; omega)]
  have := alloc_two ((w.alloc yo0).alloc yo1) yo2 (yo3 w.heap.size)
  simp only [World.size_alloc] at this
  exact this
theorem yw4 (w : World) : (yw w).heap[w.heap.size + 1 + 1 + 1 + 1]? = some (yo4 w.heap.size) := by
  unfold yw
  have := alloc_two (((w.alloc yo0).alloc yo1).alloc yo2) (yo3 w.heap.size) (yo4 w.heap.size)
  simp only [World.size_alloc] at this
  exact this
theorem y_cpus (w : World) : Kd.C (Kd.int .i64) (yw w) (some ⟨w.heap.size, 0, none⟩) 1 [1] := row_C _ _ 3 [1] (yw0 w) (by decide)
theorem y_dist (w : World) : Kd.C (Kd.slice 3 (Kd.int .i64)) (yw w) (some ⟨w.heap.size + 1 + 1 + 1, 0, none⟩) 2 zd := by
  have r1 := row_C (yw w) _ 3 [10, 20] (yw1 w) (by decide)
  have r2 := row_C (yw w) _ 3 [20, 10] (yw2 w) (by decide)
  have c0 : (yw w).cell? ⟨w.heap.size + 1 + 1 + 1, 0, none⟩ = some (.slice (some ⟨w.heap.size + 1, 0, none⟩) 2 2) := by simp only [World.cell?, yw3]; rfl
  have c1 : (yw w).cell? ⟨w.heap.size + 1 + 1 + 1, 1, none⟩ = some (.slice (some ⟨w.heap.size + 1 + 1, 0, none⟩) 2 2) := by simp only [World.cell?, yw3]; rfl
  refine ⟨rfl, by decide, fun _ => ⟨_, rfl, fun j p hp => ?_⟩⟩
  match j, hp with
  | 0, hp =>
    obtain rfl : [10, 20] = p := Option.some.inj hp
    refine ⟨[.slice (some ⟨w.heap.size + 1, 0, none⟩) 2 2], rfl, ⟨_, _, rfl, Nat.le_refl _, r1⟩, fun i u hu => ?_⟩
    match i, hu with
    | 0, hu => obtain rfl := Option.some.inj hu; exact c0
  | 1, hp =>
    obtain rfl : [20, 10] = p := Option.some.inj hp
    refine ⟨[.slice (some ⟨w.heap.size + 1 + 1, 0, none⟩) 2 2], rfl, ⟨_, _, rfl, Nat.le_refl _, r2⟩, fun i u hu => ?_⟩
    match i, hu with
    | 0, hu => obtain rfl := Option.some.inj hu; exact c1
theorem y_below (w : World) : RowKit.Below w.heap.size w (yw w) := below_alloc (below_alloc (below_alloc (below_alloc (below_alloc (RowKit.Below.refl _ _) _) _) _) _) _
theorem y_first : chV 2 4 [1] zd 0 0 0 0 0 [true, true] = (1, 1, 0, 0) := by decide +kernel
theorem y_second : chV 2 4 [1] zd 0 0 0 1 0 [] = (0, 0, 0, 11) := by decide +kernel
set_option maxHeartbeats 2000000 in
set_option maxRecDepth 100000 in
theorem chooses_own (w : World) : Calls Try.prog 25 #[] w fun e w' => e = .returned (.bool true) ∧ RowKit.Below w.heap.size w w' := by
  have Z1 := Aside0.mk (show ∀ (W : World), RowKit.Below (yw w).heap.size (yw w) W → ∀ (M : Option Addr), Kd.C Kd.bool W M 2 [true, true] → Calls Try.prog 21 #[.agg #[.int .i64 2, .int .i64 4, .slice (some ⟨w.heap.size, 0, none⟩) 1 1, .slice (some ⟨w.heap.size + 1 + 1 + 1, 0, none⟩) 2 2], .agg #[.int .i64 0, .int .u8 0, .int .i64 0], .int .i64 0, .int .i64 0, .slice M 2 2] W (fun e w' => e = .returned (.tuple #[.agg #[.int .i64 1, .int .i64 1, .int .i64 0], .int .i64 0]) ∧ RowKit.Below W.heap.size W w') by
    intro W hb M hm
    have := node_own 2 4 (some ⟨w.heap.size, 0, none⟩) 1 [1] (some ⟨w.heap.size + 1 + 1 + 1, 0, none⟩) 2 zd 0 0 (by decide) 0 0 0 M 2 [true, true] W (Kd.C_below (y_cpus w) hb) (Nat.le_refl _) (Kd.C_below (y_dist w) hb) (Nat.le_refl _) hm
    rw [show ((0 : Nat) : Int) = 0 from rfl, y_first] at this
    exact this)
  have Z2 := Aside0.mk (show ∀ (W : World), RowKit.Below (yw w).heap.size (yw w) W → Calls Try.prog 21 #[.agg #[.int .i64 2, .int .i64 4, .slice (some ⟨w.heap.size, 0, none⟩) 1 1, .slice (some ⟨w.heap.size + 1 + 1 + 1, 0, none⟩) 2 2], .agg #[.int .i64 0, .int .u8 0, .int .i64 0], .int .i64 1, .int .i64 0, .slice none 0 0] W (fun e w' => e = .returned (.tuple #[.agg #[.int .i64 0, .int .i64 0, .int .i64 0], .int .i64 11]) ∧ RowKit.Below W.heap.size W w') by
    intro W hb
    have := node_own 2 4 (some ⟨w.heap.size, 0, none⟩) 1 [1] (some ⟨w.heap.size + 1 + 1 + 1, 0, none⟩) 2 zd 0 0 (by decide) 0 1 0 none 0 [] W (Kd.C_below (y_cpus w) hb) (Nat.le_refl _) (Kd.C_below (y_dist w) hb) (Nat.le_refl _) (Kd.C_nil _ _)
    rw [show ((0 : Nat) : Int) = 0 from rfl, y_second] at this
    exact this)
  have hbx : Blk (yw w) (w.heap.size + 1 + 1 + 1 + 1) #[.int .i64 2, .int .i64 4, .slice (some ⟨w.heap.size, 0, none⟩) 1 1, .slice (some ⟨w.heap.size + 1 + 1 + 1, 0, none⟩) 2 2] 33 := yw4 w
  have HBX := Aside0.mk hbx
  have HZ := Aside0.mk (y_below w)
  go_enter Try.func25, Try.ntmps25
  go_upto_region 2 with fail
  have c0 := hbx.at 0 (.int .i64 2) rfl
  have c1 := hbx.at 1 (.int .i64 4) rfl
  have c2 := hbx.at 2 (.slice (some ⟨w.heap.size, 0, none⟩) 1 1) rfl
  have c3 := hbx.at 3 (.slice (some ⟨w.heap.size + 1 + 1 + 1, 0, none⟩) 2 2) rfl
  clear hbx
  change Code.wp _ _ _ _ (yw w)
  obtain ⟨W, hW⟩ : ∃ W, yw w = W := ⟨_, rfl⟩
  rw [hW] at Z1 Z2 HBX HZ c0 c1 c2 c3 ⊢
  clear hW
  go_upto_region 3 with (first | (go_at_call 21; (with_reducible refine (Z1.out _ (below_alloc (RowKit.Below.refl _ _) _) _ (row_B _ _ 4 [true, true] (heap_alloc_new _ _) (by decide))).mono ?_); rintro e_ w2 ⟨rfl, hb⟩; have HB := Aside0.mk (below_then (below_alloc (RowKit.Below.refl W.heap.size W) _) (below_alloc (RowKit.Below.refl W.heap.size W) _).size hb); clear hb c0 c1 c2 c3; have c0 := (HBX.out.below HB.out).at 0 (.int .i64 2) rfl; have c1 := (HBX.out.below HB.out).at 1 (.int .i64 4) rfl; have c2 := (HBX.out.below HB.out).at 2 (.slice (some ⟨w.heap.size, 0, none⟩) 1 1) rfl; have c3 := (HBX.out.below HB.out).at 3 (.slice (some ⟨w.heap.size + 1 + 1 + 1, 0, none⟩) 2 2) rfl))
  have HT := Aside0.mk (Blk.new w2 #[.int .i64 1, .int .i64 1, .int .i64 0] 53)
  have HB1 := Aside0.mk (below_alloc HB.out (.cells #[.int .i64 1, .int .i64 1, .int .i64 0] 53))
  have HB2 := Aside0.mk (below_alloc (below_then HZ.out HZ.out.size HB.out) (.cells #[.int .i64 1, .int .i64 1, .int .i64 0] 53))
  clear c0 c1 c2 c3 HB
  obtain ⟨tb, htb⟩ : ∃ tb, w2.heap.size = tb := ⟨_, rfl⟩
  rw [htb] at HT ⊢
  clear htb
  generalize w2.alloc (.cells #[.int .i64 1, .int .i64 1, .int .i64 0] 53) = w3 at *
  have c0 := (HBX.out.below HB1.out).at 0 (.int .i64 2) rfl
  have c1 := (HBX.out.below HB1.out).at 1 (.int .i64 4) rfl
  have c2 := (HBX.out.below HB1.out).at 2 (.slice (some ⟨w.heap.size, 0, none⟩) 1 1) rfl
  have c3 := (HBX.out.below HB1.out).at 3 (.slice (some ⟨w.heap.size + 1 + 1 + 1, 0, none⟩) 2 2) rfl
  go_upto_region 4 with (first | (go_at_call 21; (with_reducible refine (Z2.out _ HB1.out).mono ?_); rintro e_ w4 ⟨rfl, hb⟩; have HT4 := Aside0.mk (HT.out.below hb); have HB4 := Aside0.mk (below_then HB2.out HB2.out.size hb); clear hb c0 c1 c2 c3 HT HB2))
  have HT5 := Aside0.mk (HT4.out.alloc (.cells #[.int .i64 0, .int .i64 0, .int .i64 0] 53))
  have HB5 := Aside0.mk (below_alloc HB4.out (.cells #[.int .i64 0, .int .i64 0, .int .i64 0] 53))
  clear HT4 HB4
  generalize w4.alloc (.cells #[.int .i64 0, .int .i64 0, .int .i64 0] 53) = w5 at *
  have t0 := HT5.out.at 0 (.int .i64 1) rfl
  have t1 := HT5.out.at 1 (.int .i64 1) rfl
  go_wp2_with fail
  go_ret
  exact ⟨rfl, HB5.out⟩
end Go.Proofs.Ytffmhpfdfcpniaa.T
