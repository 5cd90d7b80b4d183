/- Plain laws of machines: what a check answers; the reference's check comes to it. -/
import Derived.Test.YtffmhpfdfcpniaaP3
import Derived.Test.YtffmhpfdfcpniaaP2
import Derived.Test.YtffmhpfdfcpniaaP1
namespace Go.Proofs.Ytffmhpfdfcpniaa.T
open Go.RowKit Go.Proofs.YtffmhpfdfcpniaaW.PrintWords Go.Proofs.YtffmhpfdfcpniaaW.PrintLast Go.Proofs.YtffmhpfdfcpniaaW.PrintMore Go.Proofs.Ytffmhpfdfcpniaa.PH
set_option linter.unusedVariables false
set_option linter.unusedSimpArgs false
def pows : List Int := [1, 2, 4, 8, 16, 32, 64, 128, 256, 512, 1024]
def countsB (n f : Int) (cpus : List Int) : Bool := pows.contains f && decide (1 ≤ n) && decide (n ≤ 8) && decide (1 ≤ cpus.length) && decide (cpus.length ≤ 16)
def cpB (n : Int) (cpus : List Int) : Bool := cpus.all fun c => decide (0 ≤ c) && decide (c < n)
/-- The distance of two nodes. -/
def dd (dist : List (List Int)) (a b : Nat) : Int := (dist.getD a []).getD b 0
def okAt (dist : List (List Int)) (a b : Nat) : Bool := decide (dd dist a b = dd dist b a) && (if a = b then decide (dd dist a b = 10) else decide (11 ≤ dd dist a b) && decide (dd dist a b ≤ 255))
def lensB (n : Nat) (dist : List (List Int)) : Bool := decide (dist.length = n) && (List.range n).all fun a => decide ((dist.getD a []).length = n)
def mtB (n : Nat) (dist : List (List Int)) : Bool := lensB n dist && (List.range n).all fun a => (List.range n).all fun b => okAt dist a b
/-- What a check answers. -/
def chk (n f : Int) (cpus : List Int) (dist : List (List Int)) : Int :=
  if countsB n f cpus = true then (if cpB n cpus = true then (if mtB n.toNat dist = true then 0 else 4) else 10) else 3
theorem wrap_s (x : Int) (h0 : -1000000 ≤ x) (h1 : x ≤ 1000000) : wrap64 x = x := IntWalk.wrap64_in _ ⟨by omega, by omega⟩
theorem rd_dd (dist : List (List Int)) (a b : Nat) : rd (rd_L1 dist (a : Int)) (b : Int) = dd dist a b := by
  unfold rd rd_L1 dd
  rw [Int.toNat_natCast, Int.toNat_natCast]
theorem rdl (dist : List (List Int)) (a : Nat) : rd_L1 dist (a : Int) = dist.getD a [] := by
  unfold rd_L1
  rw [Int.toNat_natCast]
theorem r03_l4 (n : Nat) (hn : n ≤ 8) (f : Int) (cpus : List Int) (dist : List (List Int)) (hl : dist.length = n) (hr : ∀ a, a < n → (dist.getD a []).length = n) (a : Nat) (ha : a < n) :
    ∀ (d b k : Nat), n - b = d → b ≤ n → d + 1 ≤ k → ∃ k', k ≤ k' + d + 1 ∧ messuageref03_Check.l4 k (a : Int) (b : Int) (n : Int) f cpus dist = if (List.range' b d).all (fun b => okAt dist a b) = true then messuageref03_Check.l3 k' ((a + 1 : Nat) : Int) (n : Int) f cpus dist else some 4 := by
  intro d
  induction d with
  | zero =>
    intro b k hd hb hk
    obtain rfl : b = n := by omega
    obtain ⟨q, rfl⟩ : ∃ q, k = q + 1 := ⟨k - 1, by omega⟩
    refine ⟨q, by omega, ?_⟩
    rw [messuageref03_Check.l4, if_neg (by omega), wrap_s _ (by omega) (by omega)]
    simp
  | succ d ih =>
    intro b k hd hb hk
    obtain ⟨q, rfl⟩ : ∃ q, k = q + 1 := ⟨k - 1, by omega⟩
    obtain ⟨k', hk', e⟩ := ih (b + 1) q (by omega) (by omega) (by omega)
    refine ⟨k', by omega, ?_⟩
    have hra := hr a ha
    have hrb := hr b (by omega)
    rw [messuageref03_Check.l4, if_pos (by omega), if_pos (by omega), if_pos (by omega), if_pos (by omega), rdl dist a, if_pos (by rw [hra]; omega), List.range'_succ, List.all_cons]
    rw [← rdl dist a, rd_dd, wrap_s _ (by omega) (by omega), show (b : Int) + 1 = ((b + 1 : Nat) : Int) by omega]
    by_cases hab : a = b
    · subst hab
      rw [if_pos rfl]
      by_cases h10 : dd dist a a = 10
      · have ho : okAt dist a a = true := by unfold okAt; simp [h10]
        rw [if_pos h10, e, ho, Bool.true_and]
      · have ho : okAt dist a a = false := by unfold okAt; simp [h10]
        rw [if_neg h10, ho, Bool.false_and, if_neg (by simp)]
    · rw [if_neg (by omega)]
      by_cases h1 : dd dist a b < 11
      · have h1' : ¬ 11 ≤ dd dist a b := by omega
        have ho : okAt dist a b = false := by unfold okAt; simp [hab, h1']
        rw [if_pos h1, ho, Bool.false_and, if_neg (by simp)]
      · rw [if_neg h1]
        by_cases h2 : dd dist a b > 255
        · have h2' : ¬ dd dist a b ≤ 255 := by omega
          have ho : okAt dist a b = false := by unfold okAt; simp [hab, h2']
          rw [if_pos h2, ho, Bool.false_and, if_neg (by simp)]
        · rw [if_neg h2, if_pos (by omega), rdl dist b, if_pos (by rw [hrb]; omega), ← rdl dist b, rd_dd]
          have h1' : 11 ≤ dd dist a b := by omega
          have h2' : dd dist a b ≤ 255 := by omega
          by_cases h3 : dd dist a b = dd dist b a
          · have ho : okAt dist a b = true := by unfold okAt; rw [if_neg hab, decide_eq_true h3, decide_eq_true h1', decide_eq_true h2']; rfl
            rw [if_pos h3, e, ho, Bool.true_and]
          · have ho : okAt dist a b = false := by unfold okAt; rw [decide_eq_false h3, Bool.false_and]
            rw [if_neg h3, ho, Bool.false_and, if_neg (by simp)]
theorem r03_l3 (n : Nat) (hn : n ≤ 8) (f : Int) (cpus : List Int) (dist : List (List Int)) (hl : dist.length = n) (hr : ∀ a, a < n → (dist.getD a []).length = n) :
    ∀ (d a k : Nat), n - a = d → a ≤ n → d * 10 + 1 ≤ k → messuageref03_Check.l3 k (a : Int) (n : Int) f cpus dist = some (if (List.range' a d).all (fun a => (List.range n).all fun b => okAt dist a b) = true then 0 else 4) := by
  intro d
  induction d with
  | zero =>
    intro a k hd ha hk
    obtain rfl : a = n := by omega
    obtain ⟨q, rfl⟩ : ∃ q, k = q + 1 := ⟨k - 1, by omega⟩
    rw [messuageref03_Check.l3, if_neg (by omega)]
    simp
  | succ d ih =>
    intro a k hd ha hk
    obtain ⟨q, rfl⟩ : ∃ q, k = q + 1 := ⟨k - 1, by omega⟩
    obtain ⟨k', hk', e⟩ := r03_l4 n hn f cpus dist hl hr a (by omega) n 0 q (by omega) (by omega) (by omega)
    rw [messuageref03_Check.l3, if_pos (by omega), show (0 : Int) = ((0 : Nat) : Int) from rfl, e, List.range'_succ, List.all_cons, List.range_eq_range']
    by_cases h : (List.range' 0 n).all (fun b => okAt dist a b) = true
    · rw [if_pos h, ih (a + 1) k' (by omega) (by omega) (by omega), h, Bool.true_and, List.range_eq_range']
      rfl
    · rw [if_neg h]
      have h' : (List.range' 0 n).all (fun b => okAt dist a b) = false := by simpa using h
      rw [h', Bool.false_and, if_neg (by simp)]
theorem r03_l2 (n : Nat) (hn : n ≤ 8) (f : Int) (cpus : List Int) (dist : List (List Int)) (hl : dist.length = n) :
    ∀ (d a k : Nat), n - a = d → a ≤ n → (∀ j, j < a → (dist.getD j []).length = n) → d + 100 ≤ k → messuageref03_Check.l2 k (a : Int) (n : Int) f cpus dist = some (if (List.range' a d).all (fun a => decide ((dist.getD a []).length = n)) = true then (if (List.range n).all (fun a => (List.range n).all fun b => okAt dist a b) = true then 0 else 4) else 4) := by
  intro d
  induction d with
  | zero =>
    intro a k hd ha hj hk
    obtain rfl : a = n := by omega
    obtain ⟨q, rfl⟩ : ∃ q, k = q + 1 := ⟨k - 1, by omega⟩
    rw [messuageref03_Check.l2, if_neg (by omega), show (0 : Int) = ((0 : Nat) : Int) from rfl, r03_l3 a hn f cpus dist hl hj a 0 q (by omega) (by omega) (by omega), List.range_eq_range']
    simp
  | succ d ih =>
    intro a k hd ha hj hk
    obtain ⟨q, rfl⟩ : ∃ q, k = q + 1 := ⟨k - 1, by omega⟩
    rw [messuageref03_Check.l2, if_pos (by omega), if_pos (by omega), if_pos (by omega), rdl, List.range'_succ, List.all_cons]
    by_cases h : (dist.getD a []).length = n
    · rw [if_pos (by omega), wrap_s _ (by omega) (by omega), show (a : Int) + 1 = ((a + 1 : Nat) : Int) by omega, ih (a + 1) q (by omega) (by omega) (fun j hja => by
        rcases Nat.lt_or_ge j a with h' | h'
        · exact hj j h'
        · obtain rfl : j = a := by omega
          exact h) (by omega)]
      rw [decide_eq_true h, Bool.true_and]
    · rw [if_neg (by omega), decide_eq_false h, Bool.false_and, if_neg (by simp)]
theorem r03_l1 (n : Nat) (hn : n ≤ 8) (f : Int) (cpus : List Int) (hc : cpus.length ≤ 16) (dist : List (List Int)) (hmax : dist.length ≤ 9223372036854775807) :
    ∀ (d i k : Nat), cpus.length - i = d → i ≤ cpus.length → d + 120 ≤ k → messuageref03_Check.l1 k (i : Int) (n : Int) f cpus dist = some (if cpB (n : Int) (cpus.drop i) = true then (if mtB n dist = true then 0 else 4) else 10) := by
  intro d
  induction d with
  | zero =>
    intro i k hd hi hk
    obtain rfl : i = cpus.length := by omega
    obtain ⟨q, rfl⟩ : ∃ q, k = q + 1 := ⟨k - 1, by omega⟩
    rw [messuageref03_Check.l1, if_neg (by omega), List.drop_length]
    have e0 : cpB (n : Int) [] = true := rfl
    rw [if_pos e0]
    unfold mtB lensB
    by_cases hl : dist.length = n
    · rw [if_pos (by omega), show (0 : Int) = ((0 : Nat) : Int) from rfl, r03_l2 n hn f cpus dist hl n 0 q (by omega) (by omega) (fun j hj => absurd hj (by omega)) (by omega), decide_eq_true hl, Bool.true_and, List.range_eq_range']
      by_cases h : (List.range' 0 n).all (fun a => decide ((dist.getD a []).length = n)) = true
      · rw [if_pos h, h, Bool.true_and]
        rfl
      · have h' : (List.range' 0 n).all (fun a => decide ((dist.getD a []).length = n)) = false := by simpa using h
        rw [if_neg h, h', Bool.false_and, if_neg (by simp)]
    · rw [if_neg (by omega), decide_eq_false hl, Bool.false_and, Bool.false_and, if_neg (by simp)]
  | succ d ih =>
    intro i k hd hi hk
    obtain ⟨q, rfl⟩ : ∃ q, k = q + 1 := ⟨k - 1, by omega⟩
    have hlt : i < cpus.length := by omega
    have hdr : cpus.drop i = cpus[i] :: cpus.drop (i + 1) := List.drop_eq_getElem_cons hlt
    have hrd : rd cpus (i : Int) = cpus[i] := by unfold rd; rw [Int.toNat_natCast, List.getD_eq_getElem?_getD, List.getElem?_eq_getElem hlt]; rfl
    rw [messuageref03_Check.l1, if_pos (by omega), if_pos (by omega), hrd, hdr]
    unfold cpB
    rw [List.all_cons]
    by_cases h1 : cpus[i] < 0
    · rw [if_pos h1, decide_eq_false (by omega : ¬ 0 ≤ cpus[i]), Bool.false_and, Bool.false_and, if_neg (by simp)]
    · rw [if_neg h1]
      by_cases h2 : cpus[i] ≥ (n : Int)
      · rw [if_pos h2, decide_eq_false (by omega : ¬ cpus[i] < (n : Int)), Bool.and_false, Bool.false_and, if_neg (by simp)]
      · rw [if_neg h2, wrap_s _ (by omega) (by omega), show (i : Int) + 1 = ((i + 1 : Nat) : Int) by omega, ih (i + 1) q (by omega) (by omega) (by omega)]
        rw [decide_eq_true (by omega : 0 ≤ cpus[i]), decide_eq_true (by omega : cpus[i] < (n : Int)), Bool.true_and, Bool.true_and]
        rfl
theorem r03_l0 (k : Nat) (x : Bool) (p : Int) (hp : 1 ≤ p) (hp2 : p ≤ 1024) (n f : Int) (cpus : List Int) (dist : List (List Int)) :
    messuageref03_Check.l0 (k + 1) x p n f cpus dist = messuageref03_Check.l0 k (x || (f == p)) (2 * p) n f cpus dist := by
  rw [messuageref03_Check.l0, if_pos hp2, wrap_s _ (by omega) (by omega)]
  cases x <;> simp
theorem r03_f (n f : Int) (cpus : List Int) (dist : List (List Int)) (hmax : dist.length ≤ 9223372036854775807) (hcm : cpus.length ≤ 9223372036854775807) : messuageref03_Check.f 200 n f cpus dist = some (chk n f cpus dist) := by
  unfold messuageref03_Check.f
  obtain ⟨q, hq⟩ : ∃ q, q = 180 := ⟨_, rfl⟩
  rw [show (200 : Nat) = q + 9 + 1 + 1 + 1 + 1 + 1 + 1 + 1 + 1 + 1 + 1 + 1 by omega]
  rw [r03_l0 _ _ 1 (by omega) (by omega), r03_l0 _ _ _ (by omega) (by omega), r03_l0 _ _ _ (by omega) (by omega), r03_l0 _ _ _ (by omega) (by omega), r03_l0 _ _ _ (by omega) (by omega), r03_l0 _ _ _ (by omega) (by omega), r03_l0 _ _ _ (by omega) (by omega), r03_l0 _ _ _ (by omega) (by omega), r03_l0 _ _ _ (by omega) (by omega), r03_l0 _ _ _ (by omega) (by omega), r03_l0 _ _ _ (by omega) (by omega)]
  have hpw : (false || (f == 1) || (f == 2 * 1) || (f == 2 * (2 * 1)) || (f == 2 * (2 * (2 * 1))) || (f == 2 * (2 * (2 * (2 * 1)))) || (f == 2 * (2 * (2 * (2 * (2 * 1))))) || (f == 2 * (2 * (2 * (2 * (2 * (2 * 1)))))) || (f == 2 * (2 * (2 * (2 * (2 * (2 * (2 * 1))))))) || (f == 2 * (2 * (2 * (2 * (2 * (2 * (2 * (2 * 1)))))))) || (f == 2 * (2 * (2 * (2 * (2 * (2 * (2 * (2 * (2 * 1))))))))) || (f == 2 * (2 * (2 * (2 * (2 * (2 * (2 * (2 * (2 * (2 * 1))))))))))) = pows.contains f := by
    unfold pows
    simp [List.contains_cons, Bool.or_assoc]
    rfl
  rw [hpw]
  generalize hP : pows.contains f = P
  rw [messuageref03_Check.l0, if_neg (by omega)]
  unfold chk countsB
  rw [hP]
  have hj : ∀ (k : Nat), messuageref03_Check.j1 (k + 1) true n f cpus dist = some 3 := fun k => by rw [messuageref03_Check.j1, if_pos rfl]
  by_cases h1 : n < 1
  · rw [if_pos h1, show q + 8 = (q + 7) + 1 from rfl, hj, decide_eq_false (by omega : ¬ 1 ≤ n)]
    simp
  · rw [if_neg h1]
    by_cases h2 : n > 8
    · rw [if_pos h2, show q + 8 = (q + 7) + 1 from rfl, hj, decide_eq_false (by omega : ¬ n ≤ 8)]
      simp
    · rw [if_neg h2]
      cases P with
      | false =>
        rw [if_neg (by simp), show q + 8 = (q + 7) + 1 from rfl, hj]
        simp
      | true =>
        rw [if_pos rfl]
        by_cases h3 : (cpus.length : Int) < 1
        · rw [if_pos h3, show q + 8 = (q + 7) + 1 from rfl, hj, decide_eq_false (by omega : ¬ 1 ≤ cpus.length)]
          simp
        · rw [if_neg h3]
          by_cases h4 : (cpus.length : Int) > 16
          · rw [decide_eq_true h4, show q + 8 = (q + 7) + 1 from rfl, hj, decide_eq_false (by omega : ¬ cpus.length ≤ 16)]
            simp
          · rw [decide_eq_false h4, show q + 8 = (q + 7) + 1 from rfl, messuageref03_Check.j1, if_neg (by simp)]
            obtain ⟨m, rfl⟩ := Int.eq_ofNat_of_zero_le (show 0 ≤ n by omega)
            rw [show (0 : Int) = ((0 : Nat) : Int) from rfl, r03_l1 m (by omega) f cpus (by omega) dist hmax cpus.length 0 (q + 7) (by omega) (by omega) (by omega), List.drop_zero]
            rw [decide_eq_true (by omega : 1 ≤ (m : Int)), decide_eq_true (by omega : (m : Int) ≤ 8), decide_eq_true (by omega : 1 ≤ cpus.length), decide_eq_true (by omega : cpus.length ≤ 16)]
            simp
theorem pow_all : (List.range 1025).all (fun f => f == 0 || (decide (Go.bits .and .i64 (f : Int) (wrap64 ((f : Int) - 1)) = 0) == pows.contains (f : Int))) = true := by decide +kernel
theorem pow_and (f : Int) (h1 : 1 ≤ f) (h2 : f ≤ 1024) : decide (Go.bits .and .i64 f (wrap64 (f - 1)) = 0) = pows.contains f := by
  obtain ⟨m, rfl⟩ := Int.eq_ofNat_of_zero_le (show 0 ≤ f by omega)
  have := List.all_eq_true.1 pow_all m (List.mem_range.2 (by omega))
  have h0 : (m == 0) = false := by simp; omega
  rw [h0, Bool.false_or] at this
  exact beq_iff_eq.1 this
theorem pows_in (f : Int) (h : ¬ (1 ≤ f ∧ f ≤ 1024)) : pows.contains f = false := by
  have : ∀ x ∈ pows, 1 ≤ x ∧ x ≤ 1024 := by decide
  rw [List.contains_eq_mem]
  exact decide_eq_false (fun hm => h (this f hm))
theorem counts_f (n f : Int) (cpus : List Int) (dist : List (List Int)) : topo_counts.f n f cpus dist = some (countsB n f cpus) := by
  unfold topo_counts.f countsB
  by_cases h1 : f ≥ 1
  · rw [if_pos h1]
    by_cases h2 : f ≤ 1024
    · rw [if_pos h2, ← pow_and f h1 h2]
      by_cases h3 : Go.bits .and .i64 f (wrap64 (f - 1)) = 0
      · rw [if_pos h3, decide_eq_true h3, Bool.true_and]
        by_cases h4 : n ≥ 1
        · rw [if_pos h4, decide_eq_true (by omega : 1 ≤ n), Bool.true_and]
          by_cases h5 : n ≤ 8
          · rw [if_pos h5, decide_eq_true h5, Bool.true_and]
            by_cases h6 : (cpus.length : Int) ≥ 1
            · rw [if_pos h6, decide_eq_true (by omega : 1 ≤ cpus.length), Bool.true_and]
              congr 1
              by_cases h7 : cpus.length ≤ 16
              · rw [decide_eq_true h7, decide_eq_true (by omega)]
              · rw [decide_eq_false h7, decide_eq_false (by omega)]
            · rw [if_neg h6, decide_eq_false (by omega : ¬ 1 ≤ cpus.length), Bool.false_and]
          · rw [if_neg h5, decide_eq_false h5, Bool.false_and, Bool.false_and]
        · rw [if_neg h4, decide_eq_false (by omega : ¬ 1 ≤ n), Bool.false_and, Bool.false_and, Bool.false_and]
      · rw [if_neg h3, decide_eq_false h3, Bool.false_and, Bool.false_and, Bool.false_and, Bool.false_and]
    · rw [if_neg h2, pows_in f (by omega)]; rfl
  · rw [if_neg h1, pows_in f (by omega)]; rfl
end Go.Proofs.Ytffmhpfdfcpniaa.T
