/- The document's order and the document's sets, as lists. -/
import Derived.Test.YtffmhpfdfcpniaaP
namespace Go.Proofs.Ytffmhpfdfcpniaa.T
open Go.RowKit Go.Proofs.YtffmhpfdfcpniaaW.PrintWords Go.Proofs.YtffmhpfdfcpniaaW.PrintLast Go.Proofs.YtffmhpfdfcpniaaW.PrintMore Go.Proofs.Ytffmhpfdfcpniaa.PH
set_option linter.unusedVariables false
set_option linter.unusedSimpArgs false
/-- The nodes of one distance. -/
def atD (dist : List (List Int)) (a : Nat) (d : Nat) (b m : Nat) : List Int := ((List.range' b m).filter fun x => decide (dd dist a x = (d : Int))).map fun (x : Nat) => (x : Int)
theorem atD_len (dist : List (List Int)) (a d b m : Nat) : (atD dist a d b m).length ≤ m := by
  unfold atD
  rw [List.length_map]
  exact Nat.le_trans (List.length_filter_le _ _) (by simp)
theorem r04_l1 (n : Nat) (hn : n ≤ 8) (f : Int) (cpus : List Int) (dist : List (List Int)) (a : Nat) (ha : a < n) (hl : dist.length = n) (hr : (dist.getD a []).length = n) (D : Nat) (hD : D ≤ 255) :
    ∀ (m b k : Nat) (xs : List Int), n - b = m → b ≤ n → m + 1 ≤ k → xs.length + m ≤ 1000000 → ∃ k', k ≤ k' + m + 1 ∧ messuageref04_Order.l1 k (a : Int) xs (D : Int) (b : Int) (n : Int) f cpus dist = messuageref04_Order.l0 k' (a : Int) (xs ++ atD dist a D b m) ((D + 1 : Nat) : Int) (n : Int) f cpus dist := by
  intro m
  induction m with
  | zero =>
    intro b k xs hd hb hk hx
    obtain rfl : b = n := by omega
    obtain ⟨q, rfl⟩ : ∃ q, k = q + 1 := ⟨k - 1, by omega⟩
    refine ⟨q, by omega, ?_⟩
    rw [messuageref04_Order.l1, if_neg (by omega), wrap_s _ (by omega) (by omega)]
    unfold atD
    rw [List.range'_zero, List.filter_nil, List.map_nil, List.append_nil, show (D : Int) + 1 = ((D + 1 : Nat) : Int) by omega]
  | succ m ih =>
    intro b k xs hd hb hk hx
    obtain ⟨q, rfl⟩ : ∃ q, k = q + 1 := ⟨k - 1, by omega⟩
    rw [messuageref04_Order.l1, if_pos (by omega), if_pos (by omega), if_pos (by omega), if_pos (by omega), rdl dist a, if_pos (by rw [hr]; omega), ← rdl dist a, rd_dd, wrap_s _ (by omega) (by omega), show (b : Int) + 1 = ((b + 1 : Nat) : Int) by omega]
    by_cases h : dd dist a b = (D : Int)
    · rw [if_pos h, if_pos (by omega)]
      obtain ⟨k', hk', e⟩ := ih (b + 1) q (xs ++ [(b : Int)]) (by omega) (by omega) (by omega) (by rw [List.length_append]; simp; omega)
      refine ⟨k', by omega, ?_⟩
      rw [e]
      have : atD dist a D b (m + 1) = (b : Int) :: atD dist a D (b + 1) m := by
        unfold atD
        rw [List.range'_succ, List.filter_cons_of_pos (by rw [decide_eq_true h]), List.map_cons]
      rw [this, List.append_assoc, List.singleton_append]
    · rw [if_neg h]
      obtain ⟨k', hk', e⟩ := ih (b + 1) q xs (by omega) (by omega) (by omega) (by omega)
      refine ⟨k', by omega, ?_⟩
      rw [e]
      have : atD dist a D b (m + 1) = atD dist a D (b + 1) m := by
        unfold atD
        rw [List.range'_succ, List.filter_cons_of_neg (by rw [decide_eq_false h]; simp)]
      rw [this]
theorem r04_l0 (n : Nat) (hn : n ≤ 8) (f : Int) (cpus : List Int) (dist : List (List Int)) (a : Nat) (ha : a < n) (hl : dist.length = n) (hr : (dist.getD a []).length = n) :
    ∀ (m D k : Nat) (xs : List Int), D + m = 256 → m * 12 + 1 ≤ k → xs.length + m * 8 ≤ 1000000 → messuageref04_Order.l0 k (a : Int) xs (D : Int) (n : Int) f cpus dist = some (xs ++ (List.range' D m).flatMap fun d => atD dist a d 0 n) := by
  intro m
  induction m with
  | zero =>
    intro D k xs hd hk hx
    obtain ⟨q, rfl⟩ : ∃ q, k = q + 1 := ⟨k - 1, by omega⟩
    rw [messuageref04_Order.l0, if_neg (by omega), List.range'_zero, List.flatMap_nil, List.append_nil]
  | succ m ih =>
    intro D k xs hd hk hx
    obtain ⟨q, rfl⟩ : ∃ q, k = q + 1 := ⟨k - 1, by omega⟩
    obtain ⟨k', hk', e⟩ := r04_l1 n hn f cpus dist a ha hl hr D (by omega) n 0 q xs (by omega) (by omega) (by omega) (by omega)
    rw [messuageref04_Order.l0, if_pos (by omega), show (0 : Int) = ((0 : Nat) : Int) from rfl, e]
    have hlen := atD_len dist a D 0 n
    rw [ih (D + 1) k' (xs ++ atD dist a D 0 n) (by omega) (by omega) (by rw [List.length_append]; omega), List.range'_succ, List.flatMap_cons, List.append_assoc]
theorem val_range (n : Nat) : (List.finRange n).map (fun b => b.val) = List.range n := by
  apply List.ext_getElem
  · simp
  · intro i h1 h2; simp
theorem ordL_flat (dist : List (List Int)) (a n : Nat) (h : Far dist a n) : ordL dist a n = (List.range' 10 246).flatMap fun d => atD dist a d 0 n := by
  unfold ordL ordF bucket
  rw [List.map_flatMap, List.flatMap_def, List.flatMap_def]
  congr 1
  apply List.map_congr_left
  intro d hd
  unfold atD
  rw [← List.range_eq_range', ← val_range n, List.filter_map, List.map_map]
  have hd' := (List.mem_range'_1.1 hd).1
  have : ((List.finRange n).filter fun x => decide ((dd dist a x.val).toNat = d)) = (List.finRange n).filter ((fun x => decide (dd dist a x = (d : Int))) ∘ fun b => b.val) := by
    apply List.filter_congr
    intro x _
    have := h x.val x.isLt
    show decide ((dd dist a x.val).toNat = d) = decide (dd dist a x.val = (d : Int))
    rw [decide_eq_decide]
    omega
  rw [this]
  rfl
theorem r04_f (n : Nat) (hn : n ≤ 8) (f : Int) (cpus : List Int) (dist : List (List Int)) (a : Nat) (ha : a < n) (hl : dist.length = n) (hr : (dist.getD a []).length = n) (h : Far dist a n) (k : Nat) (hk : 3000 ≤ k) : messuageref04_Order.f k (n : Int) f cpus dist (a : Int) = some (ordL dist a n) := by
  unfold messuageref04_Order.f
  rw [show (10 : Int) = ((10 : Nat) : Int) from rfl, r04_l0 n hn f cpus dist a ha hl hr 246 10 k [] rfl (by omega) (by decide), ordL_flat dist a n h]
  rfl
theorem has_f (s x : Int) : messuageref01_Has.f s x = some (hasB s x) := by
  unfold messuageref01_Has.f hasB
  by_cases h0 : x ≥ 0
  · rw [if_pos h0]
    by_cases h8 : x < 8
    · rw [if_pos h8, if_pos h0, if_pos ⟨h0, h8⟩]
    · rw [if_neg h8, if_neg (fun hh => h8 hh.2)]
  · rw [if_neg h0, if_neg (fun hh => h0 hh.1)]
theorem r04w_l0 (s : Int) (l : List Int) (hl : l.length ≤ 1000) : ∀ (m i k : Nat) (xs : List Int), l.length - i = m → i ≤ l.length → m + 1 ≤ k → xs.length + m ≤ 1000000 → messuageref04_Within.l0 k s xs l (i : Int) = some (xs ++ inL s (l.drop i)) := by
  intro m
  induction m with
  | zero =>
    intro i k xs hm hi hk hx
    obtain rfl : i = l.length := by omega
    obtain ⟨q, rfl⟩ : ∃ q, k = q + 1 := ⟨k - 1, by omega⟩
    rw [messuageref04_Within.l0, if_neg (by omega), List.drop_length]
    unfold inL
    rw [List.filter_nil, List.append_nil]
  | succ m ih =>
    intro i k xs hm hi hk hx
    obtain ⟨q, rfl⟩ : ∃ q, k = q + 1 := ⟨k - 1, by omega⟩
    have hil : i < l.length := by omega
    rw [messuageref04_Within.l0, if_pos (by omega), if_pos (by omega), has_f, Option.bind_some, wrap_s _ (by omega) (by omega), show (i : Int) + 1 = ((i + 1 : Nat) : Int) by omega, rd_at l i hil, List.drop_eq_getElem_cons hil]
    by_cases h : hasB s l[i] = true
    · rw [if_pos h, if_pos (by omega), ih (i + 1) q _ (by omega) (by omega) (by omega) (by rw [List.length_append]; simp; omega)]
      unfold inL
      rw [List.filter_cons_of_pos h, List.append_assoc, List.singleton_append]
    · rw [if_neg h, ih (i + 1) q _ (by omega) (by omega) (by omega) (by omega)]
      unfold inL
      rw [List.filter_cons_of_neg h]
theorem r04w_f (n : Nat) (hn : n ≤ 8) (f : Int) (cpus : List Int) (dist : List (List Int)) (a : Nat) (ha : a < n) (hl : dist.length = n) (hr : (dist.getD a []).length = n) (h : Far dist a n) (s : Int) (k : Nat) (hk : 3000 ≤ k) : messuageref04_Within.f k (n : Int) f cpus dist (a : Int) s = some (inL s (ordL dist a n)) := by
  unfold messuageref04_Within.f
  rw [r04_f n hn f cpus dist a ha hl hr h k hk, Option.bind_some]
  have hlen := ordL_len dist a n h
  have := r04w_l0 s (ordL dist a n) (by omega) n 0 k [] (by omega) (Nat.zero_le _) (by omega) (by simp; omega)
  rw [List.drop_zero] at this
  exact this
theorem same_l0 (xs : List Int) (h64 : xs.length ≤ 1000) : ∀ (d i k : Nat), xs.length - i = d → i ≤ xs.length → d + 1 ≤ k → messuagelaw04_same.l0 k xs xs (i : Int) = some true := by
  intro d
  induction d with
  | zero =>
    intro i k hd hi hk
    obtain ⟨q, rfl⟩ : ∃ q, k = q + 1 := ⟨k - 1, by omega⟩
    rw [messuagelaw04_same.l0, if_neg (by omega)]
  | succ d ih =>
    intro i k hd hi hk
    obtain ⟨q, rfl⟩ : ∃ q, k = q + 1 := ⟨k - 1, by omega⟩
    rw [messuagelaw04_same.l0, if_pos (by omega), if_pos (by omega), if_pos (by omega), if_pos rfl, wrap_s _ (by omega) (by omega), show (i : Int) + 1 = ((i + 1 : Nat) : Int) by omega, ih (i + 1) q (by omega) (by omega) (by omega)]
theorem same_f (xs : List Int) (h64 : xs.length ≤ 1000) : messuagelaw04_same.f 1001 xs xs = some true := by
  unfold messuagelaw04_same.f
  rw [if_pos rfl]
  exact same_l0 xs h64 xs.length 0 1001 rfl (Nat.zero_le _) (by omega)
end Go.Proofs.Ytffmhpfdfcpniaa.T
