import Derived.Test.YtenkdmloolbdaaaGreatDoorE08
import Derived.Test.YtenkdmloolbdaaaGreatDoorE04
set_option linter.unusedVariables false
set_option linter.unusedSimpArgs false
set_option maxHeartbeats 8000000
set_option maxRecDepth 100000
section
namespace Go.Proofs.YtenkdmloolbdaaaGreatDoor.T
def FRq (F : Nat → Bool) (q k : Nat) : Prop := ∀ z, z / 2 ^ k = q → F z = true
def MBq (F : Nat → Bool) (q k : Nat) : Prop := FRq F q k ∧ ¬ FRq F (q / 2) (k + 1)
theorem div_up (z k j : Nat) : z / 2 ^ (k + j) = z / 2 ^ k / 2 ^ j := by rw [Nat.pow_add, Nat.div_div_eq_div_mul]
theorem FRq.down {F : Nat → Bool} {q k j : Nat} (h : FRq F (q / 2 ^ j) (k + j)) : FRq F q k := fun z hz => h z (by rw [div_up, hz])
theorem MBq.up {F : Nat → Bool} {q k j : Nat} (h : MBq F q k) : ¬ FRq F (q / 2 ^ (j + 1)) (k + (j + 1)) := fun hf => h.2 (by
 have e : q / 2 ^ (j + 1) = q / 2 / 2 ^ j := by rw [Nat.add_comm, div_up]
 have e2 : k + (j + 1) = k + 1 + j := by omega
 rw [e, e2] at hf
 exact hf.down)
theorem du1 (z j d : Nat) : z / 2 ^ (j + 1 + d) = z / 2 ^ j / 2 ^ (d + 1) := by
 have : j + 1 + d = j + (d + 1) := by omega
 rw [this, div_up]
theorem du3 (r d : Nat) : r / 2 / 2 ^ d = r / 2 ^ (d + 1) := by rw [Nat.add_comm d 1, div_up]
theorem pos2 (k : Nat) : 0 < 2 ^ k := Nat.pow_pos (by decide)
theorem pt_in (q k : Nat) : q * 2 ^ k / 2 ^ k = q := Nat.mul_div_cancel _ (pos2 k)
theorem MBq.taken {F F1 : Nat → Bool} {Q K o : Nat} (hM : MBq F Q K) (hoK : o ≤ K) (hmin : ∀ j, o ≤ j → j < K → ∀ r, ¬ MBq F r j) (hF1 : ∀ z, F1 z = true ↔ (F z = true ∧ z / 2 ^ o ≠ Q * 2 ^ (K - o))) (r j : Nat) :
 MBq F1 r j ↔ (if j = K then MBq F r j ∧ r ≠ Q else if o ≤ j ∧ j < K then r = Q * 2 ^ (K - j) + 1 else MBq F r j) := by
 have hsub : ∀ q k, FRq F1 q k → FRq F q k := fun q k h z hz => ((hF1 z).1 (h z hz)).1
 -- the first frame of the block
 have hx1 : F1 (Q * 2 ^ K) = false := by
  cases hc : F1 (Q * 2 ^ K) with
  | false => rfl
  | true =>
   exfalso
   refine ((hF1 _).1 hc).2 ?_
   have : Q * 2 ^ K = Q * 2 ^ (K - o) * 2 ^ o := by rw [Nat.mul_assoc, ← Nat.pow_add]; congr 2; omega
   rw [this, pt_in]
 -- a frame beside the greatest block is as it was
 have hout : ∀ z, z / 2 ^ K ≠ Q → (F1 z = true ↔ F z = true) := fun z hz => by
  rw [hF1]
  refine ⟨fun h => h.1, fun h => ⟨h, fun e => hz ?_⟩⟩
  have : z / 2 ^ K = z / 2 ^ o / 2 ^ (K - o) := by rw [← div_up]; congr 2; omega
  rw [this, e, pt_in]
 by_cases hjK : K ≤ j
 ·-- blocks as great as it, or greater
  obtain ⟨d, rfl⟩ : ∃ d, j = K + d := ⟨j - K, by omega⟩
  have hno : ∀ e, d ≤ e → FRq F1 (r / 2 ^ (e - d)) (K + e) → r / 2 ^ (e - d) ≠ Q / 2 ^ e := fun e he hf hr => by
   have := hf (Q * 2 ^ K) (by rw [div_up, pt_in]; exact hr.symm)
   rw [hx1] at this
   cases this
  have hap : r ≠ Q / 2 ^ d → (FRq F1 r (K + d) ↔ FRq F r (K + d)) := fun hr => by
   refine ⟨hsub _ _, fun h z hz => (hout z (fun e => hr ?_)).2 (h z hz)⟩
   rw [← hz, div_up, e]
  by_cases hr : r = Q / 2 ^ d
  ·have hn1 : ¬ MBq F1 r (K + d) := fun h => hno d (Nat.le_refl _) (by simpa using h.1) (by simpa using hr)
   rw [iff_false_left hn1]
   by_cases hd : d = 0
   ·subst hd
    rw [if_pos (Nat.add_zero K)]
    rintro ⟨_, h⟩
    exact h (by simpa using hr)
   ·rw [if_neg (by omega), if_neg (by omega)]
    rintro ⟨h, _⟩
    obtain ⟨d', rfl⟩ : ∃ d', d = d' + 1 := ⟨d - 1, by omega⟩
    rw [hr] at h
    exact hM.up h
  ·have hpar : ¬ FRq F1 (r / 2) (K + d + 1) ↔ ¬ FRq F (r / 2) (K + d + 1) := by
    by_cases hp : r / 2 = Q / 2 ^ (d + 1)
    ·refine ⟨fun _ h => ?_, fun _ h => ?_⟩
     ·rw [hp] at h
      exact hM.up h
     ·refine hno (d + 1) (by omega) ?_ ?_
      ·have : d + 1 - d = 1 := by omega
       rw [this]
       rw [Nat.add_assoc] at h; simpa using h
      ·have : d + 1 - d = 1 := by omega
       rw [this]
       simpa using hp
    ·refine not_congr ⟨hsub _ _, fun h z hz => (hout z (fun e => hp ?_)).2 (h z hz)⟩
     rw [← hz, Nat.add_assoc, div_up, e]
   have hiff : MBq F1 r (K + d) ↔ MBq F r (K + d) := by unfold MBq; rw [hap hr, hpar]
   rw [hiff]
   by_cases hd : d = 0
   ·subst hd
    rw [if_pos (Nat.add_zero K)]
    refine ⟨fun h => ⟨h, by simpa using hr⟩, fun h => h.1⟩
   ·rw [if_neg (by omega), if_neg (by omega)]
 ·-- smaller blocks
  have hjK' : j < K := by omega
  rw [if_neg (by omega)]
  obtain ⟨d, rfl⟩ : ∃ d, K = j + 1 + d := ⟨K - j - 1, by omega⟩
  by_cases hin : r / 2 ^ (d + 1) = Q
  ·-- within it
   have hfree : ∀ z, z / 2 ^ j = r → F z = true := fun z hz => hM.1 z (by rw [Nat.add_assoc, Nat.add_comm 1 d, div_up, hz, hin])
   have hfreeP : FRq F (r / 2) (j + 1) := fun z hz => hM.1 z (by rw [div_up, hz, ← hin, Nat.add_comm, div_up])
   have hn0 : ¬ MBq F r j := fun h => h.2 hfreeP
   by_cases hoj : o ≤ j
   ·rw [if_pos ⟨hoj, hjK'⟩]
    obtain ⟨u, rfl⟩ : ∃ u, j = o + u := ⟨j - o, by omega⟩
    have e1 : o + u + 1 + d - (o + u) = d + 1 := by omega
    have e2 : o + u + 1 + d - o = u + (1 + d) := by omega
    rw [e1]
    have hs : ∀ (q e : Nat), FRq F q (o + e) → (FRq F1 q (o + e) ↔ q ≠ Q * 2 ^ (u + (1 + d)) / 2 ^ e) := fun q e hq => by
     refine ⟨fun h hqe => ?_, fun h z hz => (hF1 z).2 ⟨hq z hz, fun hz2 => h ?_⟩⟩
     ·have := h (Q * 2 ^ (o + u + 1 + d)) (by
       have : Q * 2 ^ (o + u + 1 + d) = Q * 2 ^ (u + (1 + d)) * 2 ^ o := by rw [Nat.mul_assoc, ← Nat.pow_add]; congr 2; omega
       rw [this, div_up, pt_in]; exact hqe.symm)
      rw [hx1] at this
      cases this
     ·rw [e2] at hz2
      rw [← hz, div_up, hz2]
    have q1 : Q * 2 ^ (u + (1 + d)) / 2 ^ u = Q * 2 ^ (d + 1) := by
     have : Q * 2 ^ (u + (1 + d)) = Q * 2 ^ (d + 1) * 2 ^ u := by rw [Nat.mul_assoc, ← Nat.pow_add]; congr 2; omega
     rw [this, pt_in]
    have q2 : Q * 2 ^ (u + (1 + d)) / 2 ^ (u + 1) = Q * 2 ^ d := by
     have : Q * 2 ^ (u + (1 + d)) = Q * 2 ^ d * 2 ^ (u + 1) := by rw [Nat.mul_assoc, ← Nat.pow_add]; congr 2; omega
     rw [this, pt_in]
    unfold MBq
    rw [hs r u hfree, Nat.add_assoc o u 1, hs (r / 2) (u + 1) (by rw [← Nat.add_assoc]; exact hfreeP), q1, q2]
    have hpd : Q * 2 ^ (d + 1) = 2 * (Q * 2 ^ d) := by rw [Nat.pow_succ]; rw [← Nat.mul_assoc, Nat.mul_comm]
    rw [hpd]
    generalize Q * 2 ^ d = X
    omega
   ·rw [if_neg (by omega)]
    refine ⟨fun h => ?_, fun h => absurd h hn0⟩
    exfalso
    refine h.2 (fun z hz => (hF1 z).2 ⟨hfreeP z hz, fun hz2 => ?_⟩)
    -- the parent is within the block of order o, or apart of it
    obtain ⟨v, rfl⟩ : ∃ v, o = j + 1 + v := ⟨o - j - 1, by omega⟩
    have hr2 : (r * 2 ^ j) / 2 ^ (j + 1 + v) = Q * 2 ^ (j + 1 + d - (j + 1 + v)) := by
     rw [← hz2, div_up, div_up z, hz, div_up, pt_in]
     skip
    have := ((hF1 _).1 (h.1 (r * 2 ^ j) (pt_in _ _))).2
    exact this hr2
  ·-- apart of it
   rw [show (if o ≤ j ∧ j < j + 1 + d then r = Q * 2 ^ (j + 1 + d - j) + 1 else MBq F r j) ↔ MBq F r j from ?_]
   ·have a1 : FRq F1 r j ↔ FRq F r j := ⟨hsub _ _, fun h z hz => (hout z (fun e => hin (by rw [← e, du1, hz]))).2 (h z hz)⟩
    have a2 : FRq F1 (r / 2) (j + 1) ↔ FRq F (r / 2) (j + 1) := ⟨hsub _ _, fun h z hz => (hout z (fun e => hin (by rw [← e, div_up z (j + 1) d, hz, du3]))).2 (h z hz)⟩
    unfold MBq
    rw [a1, a2]
   ·split
    ·rename_i hc
     refine ⟨fun h => ?_, fun h => ?_⟩
     ·exfalso
      refine hin ?_
      have e1 : j + 1 + d - j = d + 1 := by omega
      rw [h, e1]
      have : Q * 2 ^ (d + 1) + 1 = Q * 2 ^ (d + 1) + 1 := rfl
      rw [Nat.mul_comm, Nat.mul_add_div (pos2 _)]
      have : 1 / 2 ^ (d + 1) = 0 := Nat.div_eq_of_lt (by
       have := Nat.pow_le_pow_right (n := 2) (by decide) (show 1 ≤ d + 1 by omega)
       omega)
      omega
     ·exact absurd h (hmin j hc.1 hc.2 r)
    ·exact Iff.rfl
theorem MBq.given {F F1 : Nat → Bool} {q k q0 o : Nat} (hok : o ≤ k) (hq : q0 / 2 ^ (k - o) = q) (h0 : ∀ z, z / 2 ^ o = q0 → F z = false) (hF1 : ∀ z, F1 z = true ↔ (F z = true ∨ z / 2 ^ o = q0)) (hin : FRq F1 q k) (hsib : ¬ MBq F (if q % 2 = 0 then q + 1 else q - 1) k) (r j : Nat) :
 MBq F1 r j ↔ (if j = k ∧ r = q then True else MBq F r j ∧ ¬ (j ≤ k ∧ r / 2 ^ (k - j) = q)) := by
 obtain ⟨u, rfl⟩ : ∃ u, k = o + u := ⟨k - o, by omega⟩
 have e0 : o + u - o = u := by omega
 rw [e0] at hq
 have hsub : ∀ q k, FRq F q k → FRq F1 q k := fun q k h z hz => (hF1 z).2 (.inl (h z hz))
 have hx0 : F (q0 * 2 ^ o) = false := h0 _ (pt_in _ _)
 have hx : ∀ e, q0 * 2 ^ o / 2 ^ (o + e) = q0 / 2 ^ e := fun e => by rw [div_up, pt_in]
 -- a block that has q0's frames is not free ahead
 have hnf : ∀ e, ¬ FRq F (q0 / 2 ^ e) (o + e) := fun e h => by
  have := h _ (hx e)
  rw [hx0] at this
  cases this
 -- frames beside the block are as they were
 have hout : ∀ z, z / 2 ^ (o + u) ≠ q → (F1 z = true ↔ F z = true) := fun z hz => by
  rw [hF1]
  refine ⟨fun h => h.elim id (fun e => absurd (by rw [div_up, e, hq]) hz), .inl⟩
 -- the block twice as great is not free behind it
 have hpar : ¬ FRq F1 (q / 2) (o + u + 1) := fun h => by
  refine hsib ⟨fun z hz => (hout z (by rw [hz]; split <;> omega)).1 (h z ?_), fun h2 => ?_⟩
  ·rw [div_up, hz]
   split <;> omega
  ·have e1 : (if q % 2 = 0 then q + 1 else q - 1) / 2 = q0 / 2 ^ (u + 1) := by
    rw [div_up, hq]
    split <;> omega
   rw [e1] at h2
   exact hnf (u + 1) h2
 have hbig : ∀ e, ¬ FRq F1 (q / 2 ^ (e + 1)) (o + u + (e + 1)) := fun e h => hpar (by
  have e1 : q / 2 ^ (e + 1) = q / 2 / 2 ^ e := by rw [Nat.add_comm, div_up]
  have e2 : o + u + (e + 1) = o + u + 1 + e := by omega
  rw [e1, e2] at h
  exact h.down)
 by_cases hjk : j < o + u
 ·obtain ⟨d, hd⟩ : ∃ d, o + u = j + 1 + d := ⟨o + u - j - 1, by omega⟩
  have e1 : o + u - j = d + 1 := by omega
  rw [if_neg (by omega), e1]
  by_cases hr : r / 2 ^ (d + 1) = q
  ·refine ⟨fun h => ?_, fun h => absurd ⟨by omega, hr⟩ h.2⟩
   exfalso
   refine h.2 (fun z hz => hin z ?_)
   rw [hd, div_up, hz, ← hr, Nat.add_comm d 1, div_up]
   skip
  ·have a1 : FRq F1 r j ↔ FRq F r j := ⟨fun h z hz => (hout z (fun e => hr (by rw [← e, hd, du1, hz]))).1 (h z hz), hsub _ _⟩
   have a2 : FRq F1 (r / 2) (j + 1) ↔ FRq F (r / 2) (j + 1) := ⟨fun h z hz => (hout z (fun e => hr (by rw [← e, hd, div_up z (j + 1) d, hz, du3]))).1 (h z hz), hsub _ _⟩
   unfold MBq
   rw [a1, a2]
   exact ⟨fun h => ⟨h, fun h2 => hr h2.2⟩, fun h => h.1⟩
 ·obtain ⟨d, rfl⟩ : ∃ d, j = o + u + d := ⟨j - (o + u), by omega⟩
  by_cases hr : r = q / 2 ^ d
  ·by_cases hd : d = 0
   ·subst hd
    rw [if_pos ⟨by omega, by simpa using hr⟩]
    refine iff_true_intro ⟨?_, ?_⟩
    ·have : r = q := by simpa using hr
     rw [this]; exact hin
    ·have : r = q := by simpa using hr
     rw [this]; exact hpar
   ·rw [if_neg (by omega)]
    obtain ⟨d', rfl⟩ : ∃ d', d = d' + 1 := ⟨d - 1, by omega⟩
    refine ⟨fun h => absurd (by rw [hr] at h; exact h.1) (hbig d'), fun h => ?_⟩
    exfalso
    refine hnf (u + (d' + 1)) ?_
    have := h.1.1
    rw [hr, ← hq, ← div_up, Nat.add_assoc] at this
    exact this
  ·have a1 : FRq F1 r (o + u + d) ↔ FRq F r (o + u + d) := ⟨fun h z hz => (hout z (fun e => hr (by rw [← hz, div_up, e]))).1 (h z hz), hsub _ _⟩
   have a2 : FRq F1 (r / 2) (o + u + d + 1) ↔ FRq F (r / 2) (o + u + d + 1) := by
    by_cases hp : r / 2 = q / 2 ^ (d + 1)
    ·refine ⟨fun h => absurd (by rw [hp] at h; exact h) (hbig d), fun h => ?_⟩
     exfalso
     refine hnf (u + (d + 1)) ?_
     rw [hp, ← hq, ← div_up, Nat.add_assoc, Nat.add_assoc] at h
     exact h
    ·exact ⟨fun h z hz => (hout z (fun e => hp (by rw [← hz, Nat.add_assoc, div_up, e]))).1 (h z hz), hsub _ _⟩
   have hd0 : d = 0 → r ≠ q := fun hd h => hr (by rw [hd, h]; simp)
   rw [if_neg (fun h => hd0 (by omega) h.2)]
   unfold MBq
   rw [a1, a2]
   refine ⟨fun h => ⟨h, fun h2 => ?_⟩, fun h => h.1⟩
   have : d = 0 := by omega
   subst this
   refine hr ?_
   have := h2.2
   simpa using this
theorem MBq.fellow {F : Nat → Bool} {q k : Nat} (hs : MBq F (if q % 2 = 0 then q + 1 else q - 1) k) (r j : Nat) :
 (MBq F r j ∧ ¬ (j ≤ k ∧ r / 2 ^ (k - j) = q) ∧ ¬ (j = k ∧ r = (if q % 2 = 0 then q + 1 else q - 1))) ↔ (MBq F r j ∧ ¬ (j ≤ k + 1 ∧ r / 2 ^ (k + 1 - j) = q / 2)) := by
 obtain ⟨sb, hsb⟩ : ∃ sb, (if q % 2 = 0 then q + 1 else q - 1) = sb := ⟨_, rfl⟩
 have hs2 : sb / 2 = q / 2 := by rw [← hsb]; split <;> omega
 have hor : ∀ t, t / 2 = q / 2 → t = q ∨ t = sb := fun t ht => by rw [← hsb]; split <;> omega
 have hup : ∀ j, j ≤ k → r / 2 ^ (k + 1 - j) = r / 2 ^ (k - j) / 2 := fun j hj => by
  have : k + 1 - j = k - j + 1 := by omega
  rw [this, div_up]
  skip
 rw [hsb] at hs ⊢
 refine ⟨fun ⟨h, h1, h2⟩ => ⟨h, fun ⟨h3, h4⟩ => ?_⟩, fun ⟨h, h1⟩ => ⟨h, fun ⟨h3, h4⟩ => h1 ⟨by omega, by rw [hup j h3, h4]⟩, fun ⟨h3, h4⟩ => h1 ⟨by omega, by rw [hup j (by omega), h4, h3]; simpa using hs2⟩⟩⟩
 by_cases hj : j = k + 1
 ·subst hj
  have : r = q / 2 := by simpa using h4
  rw [this, ← hs2] at h
  exact hs.2 h.1
 ·have hjk : j ≤ k := by omega
  rw [hup j hjk] at h4
  rcases hor _ h4 with e | e
  ·exact h1 ⟨hjk, e⟩
  ·by_cases hj2 : j = k
   ·subst hj2
    exact h2 ⟨rfl, by simpa using e⟩
   ·obtain ⟨d, rfl⟩ : ∃ d, k = j + 1 + d := ⟨k - j - 1, by omega⟩
    have e1 : j + 1 + d - j = 1 + d := by omega
    rw [e1, div_up] at e
    refine h.2 (fun z hz => hs.1 z ?_)
    rw [div_up, hz, ← e]
    skip
def frB (F : Nat → Bool) (x k : Nat) : Bool := (List.range (2 ^ k)).all fun i => F (x + i)
theorem frB_iff {F : Nat → Bool} {q k : Nat} : frB F (q * 2 ^ k) k = true ↔ FRq F q k := by
 unfold frB FRq
 rw [List.all_eq_true]
 refine ⟨fun h z hz => ?_, fun h i hi => h _ ?_⟩
 ·have h1 := Nat.div_add_mod z (2 ^ k)
  have h2 := Nat.mod_lt z (pos2 k)
  have := h (z % 2 ^ k) (by simpa using h2)
  rw [hz] at h1
  rw [← h1, Nat.mul_comm]
  exact this
 ·have h2 : i < 2 ^ k := by simpa using hi
  rw [Nat.mul_comm, Nat.mul_add_div (pos2 k), Nat.div_eq_of_lt h2]
  rfl
def canonL (n : Nat) (F : Nat → Bool) (k : Nat) : List Nat := (List.range n).filter fun x => decide (x % 2 ^ k = 0) && frB F x k && !frB F (x / 2 ^ (k + 1) * 2 ^ (k + 1)) (k + 1)
theorem canon_sorted (n : Nat) (F : Nat → Bool) (k : Nat) : (canonL n F k).Pairwise (· < ·) := List.Pairwise.filter _ List.pairwise_lt_range
theorem canon_mem {n : Nat} {F : Nat → Bool} (hF : ∀ z, F z = true → z < n) {k x : Nat} : x ∈ canonL n F k ↔ ∃ q, x = q * 2 ^ k ∧ MBq F q k := by
 unfold canonL
 simp only [List.mem_filter, List.mem_range, Bool.and_eq_true, decide_eq_true_eq, Bool.not_eq_true']
 constructor
 ·rintro ⟨h1, ⟨h2, h3⟩, h4⟩
  have hx : x / 2 ^ k * 2 ^ k = x := Nat.div_mul_cancel (Nat.dvd_of_mod_eq_zero h2)
  refine ⟨x / 2 ^ k, hx.symm, frB_iff.1 (by rw [hx]; exact h3), fun h => ?_⟩
  have := frB_iff.2 h
  have e : x / 2 ^ k / 2 = x / 2 ^ (k + 1) := by rw [div_up]
  rw [e, h4] at this
  cases this
 ·rintro ⟨q, rfl, h1, h2⟩
  refine ⟨hF _ (h1 _ (pt_in _ _)), ⟨Nat.mul_mod_left _ _, frB_iff.2 h1⟩, ?_⟩
  have e : q * 2 ^ k / 2 ^ (k + 1) = q / 2 := by rw [div_up, pt_in]
  rw [e]
  cases hc : frB F (q / 2 * 2 ^ (k + 1)) (k + 1) with
  | false => rfl
  | true => exact absurd (frB_iff.1 hc) h2
theorem canon_q {n : Nat} {F : Nat → Bool} (hF : ∀ z, F z = true → z < n) {k q : Nat} : q * 2 ^ k ∈ canonL n F k ↔ MBq F q k := by
 rw [canon_mem hF]
 refine ⟨fun ⟨q', e, h⟩ => ?_, fun h => ⟨q, rfl, h⟩⟩
 have : q = q' := Nat.eq_of_mul_eq_mul_right (pos2 k) e
 rw [this]; exact h
theorem sorted_ext : ∀ {l r : List Nat}, l.Pairwise (· < ·) → r.Pairwise (· < ·) → (∀ x, x ∈ l ↔ x ∈ r) → l = r
 | [], [], _, _, _ => rfl
 | [], b :: r, _, _, h => by have := (h b).2 (by simp); simp at this
 | a :: l, [], _, _, h => by have := (h a).1 (by simp); simp at this
 | a :: l, b :: r, hl, hr, h => by
  rw [List.pairwise_cons] at hl hr
  have hab : a = b := by
   have h1 := (h a).1 (by simp)
   have h2 := (h b).2 (by simp)
   simp only [List.mem_cons] at h1 h2
   rcases h1 with e | e
   ·exact e
   ·rcases h2 with e2 | e2
    ·exact e2.symm
    ·have := hl.1 _ e2
     have := hr.1 _ e
     omega
  subst hab
  congr 1
  refine sorted_ext hl.2 hr.2 (fun x => ?_)
  have hx := h x
  simp only [List.mem_cons] at hx
  constructor
  ·intro h1
   rcases hx.1 (.inr h1) with e | e
   ·have := hl.1 _ h1; omega
   ·exact e
  ·intro h1
   rcases hx.2 (.inr h1) with e | e
   ·have := hr.1 _ h1; omega
   ·exact e
theorem canon_len (n : Nat) (F : Nat → Bool) (k : Nat) : (canonL n F k).length ≤ n := Nat.le_trans (List.length_filter_le _ _) (by simp)
theorem canon_fit {n : Nat} {F : Nat → Bool} (hF : ∀ z, F z = true → z < n) {k x : Nat} (h : x ∈ canonL n F k) : x + 2 ^ k ≤ n := by
 obtain ⟨q, rfl, h1, _⟩ := (canon_mem hF).1 h
 have := hF _ (h1 (q * 2 ^ k + (2 ^ k - 1)) (by rw [Nat.mul_comm, Nat.mul_add_div (pos2 k), Nat.div_eq_of_lt (by have := pos2 k; omega)]; rfl))
 have := pos2 k
 omega
theorem canon_ok {n : Nat} {F : Nat → Bool} (hn : n ≤ 1024) (hF : ∀ z, F z = true → z < n) : BudOK n (canonL n F) :=
 ⟨hn, fun k _ => canon_sorted n F k, fun k _ x hx => canon_fit hF hx, fun k _ => Nat.le_trans (canon_len n F k) hn⟩
theorem canon_big {n : Nat} {F : Nat → Bool} (hn : n ≤ 1024) (hF : ∀ z, F z = true → z < n) {k : Nat} (hk : 11 ≤ k) : canonL n F k = [] := by
 cases h : canonL n F k with
 | nil => rfl
 | cons x r =>
  have := canon_fit hF (show x ∈ canonL n F k by rw [h]; simp)
  have := Nat.pow_le_pow_right (n := 2) (by decide) hk
  omega
theorem canon_take {n o K x : Nat} {F F1 : Nat → Bool} {r : List Nat} (hF : ∀ z, F z = true → z < n) (hx : canonL n F K = x :: r) (ho : o ≤ K) (hmin : ∀ j, o ≤ j → j < K → canonL n F j = []) (hF1 : ∀ z, F1 z = true ↔ (F z = true ∧ ¬ (x ≤ z ∧ z < x + 2 ^ o))) :
 frAt (canonL n F) K x o = canonL n F1 := by
 obtain ⟨Q, rfl, hM⟩ := (canon_mem hF).1 (show x ∈ canonL n F K by rw [hx]; simp)
 have hF1n : ∀ z, F1 z = true → z < n := fun z hz => hF z ((hF1 z).1 hz).1
 have hQ : Q * 2 ^ K = Q * 2 ^ (K - o) * 2 ^ o := by rw [Nat.mul_assoc, ← Nat.pow_add]; congr 2; omega
 have hT := fun r j => MBq.taken hM ho (fun j h1 h2 r h => by
  have := (canon_q hF).2 h
  rw [hmin j h1 h2] at this
  simp at this) (F1 := F1) (fun z => by
   rw [hF1, hQ]
   refine and_congr_right fun _ => not_congr ?_
   rw [Nat.div_eq_iff (pos2 o)]
   have := pos2 o
   omega) r j
 funext j
 have hS := canon_sorted n F K
 rw [hx, List.pairwise_cons] at hS
 unfold frAt
 rw [hx]
 split
 ·rename_i e
  subst e
  refine sorted_ext hS.2 (canon_sorted _ _ _) (fun y => ?_)
  rw [canon_mem hF1n]
  constructor
  ·intro hy
   obtain ⟨q, rfl, hq⟩ := (canon_mem hF).1 (show y ∈ canonL n F j by rw [hx]; exact List.mem_cons_of_mem _ hy)
   refine ⟨q, rfl, (hT q j).2 ?_⟩
   rw [if_pos rfl]
   refine ⟨hq, fun e => ?_⟩
   have := hS.1 _ hy
   rw [e] at this
   omega
  ·rintro ⟨q, rfl, hq⟩
   have := (hT q j).1 hq
   rw [if_pos rfl] at this
   have h2 := (canon_q hF).2 this.1
   rw [hx, List.mem_cons] at h2
   refine h2.elim (fun e => absurd (Nat.eq_of_mul_eq_mul_right (pos2 j) e) this.2) id
 ·rename_i hjK
  have hfin : ∀ P : Nat → Prop, (∀ q, MBq F1 q j ↔ P q) → ∀ y, y ∈ canonL n F1 j ↔ ∃ q, y = q * 2 ^ j ∧ P q := fun P hP y => by
   rw [canon_mem hF1n]
   exact exists_congr fun q => and_congr_right fun _ => hP q
  split
  ·rename_i hc
   refine sorted_ext (List.pairwise_singleton _ _) (canon_sorted _ _ _) (fun y => ?_)
   rw [hfin _ (fun q => by rw [hT, if_neg hjK, if_pos hc])]
   have e1 : (Q * 2 ^ (K - j) + 1) * 2 ^ j = Q * 2 ^ K + 2 ^ j := by
    rw [Nat.add_mul, Nat.one_mul, Nat.mul_assoc, ← Nat.pow_add]
    congr 3
    omega
   simp only [List.mem_singleton]
   constructor
   ·rintro rfl; exact ⟨_, e1.symm, rfl⟩
   ·rintro ⟨q, rfl, rfl⟩; exact e1
  ·rename_i hc
   refine sorted_ext (canon_sorted _ _ _) (canon_sorted _ _ _) (fun y => ?_)
   rw [hfin _ (fun q => by rw [hT, if_neg hjK, if_neg hc]), canon_mem hF]
def freeT (n : Nat) (tk : Int → Option Int) (z : Nat) : Bool := decide (z < n) && (List.range n).all fun y => match tk (y : Int) with
 | some o => !(decide (y ≤ z) && decide (z < y + 2 ^ o.toNat))
 | none => true
theorem freeT_lt {n : Nat} {tk : Int → Option Int} (z : Nat) (h : freeT n tk z = true) : z < n := by
 unfold freeT at h
 rw [Bool.and_eq_true] at h
 simpa using h.1
structure TkOK (n : Nat) (tk : Int → Option Int) : Prop where
 dom : ∀ y o, tk y = some o → ∃ q k : Nat, y = ((q * 2 ^ k : Nat) : Int) ∧ o = (k : Int) ∧ k < 11 ∧ q * 2 ^ k + 2 ^ k ≤ n
 dis : ∀ (y y' k k' : Nat), tk (y : Int) = some (k : Int) → tk (y' : Int) = some (k' : Int) → y < y' → y + 2 ^ k ≤ y'
theorem freeT_iff {n : Nat} {tk : Int → Option Int} (h : TkOK n tk) (z : Nat) : freeT n tk z = true ↔ z < n ∧ ∀ y k : Nat, tk (y : Int) = some (k : Int) → ¬ (y ≤ z ∧ z < y + 2 ^ k) := by
 unfold freeT
 rw [Bool.and_eq_true, List.all_eq_true, decide_eq_true_eq]
 refine and_congr_right fun hz => ⟨fun hall y k hy ⟨h1, h2⟩ => ?_, fun hall y hy => ?_⟩
 ·have := hall y (by simp; omega)
  rw [hy] at this
  simp only [Int.toNat_natCast] at this
  simp [h1, h2] at this
 ·split
  ·rename_i o ho
   obtain ⟨q, k, e1, rfl, _⟩ := h.dom _ _ ho
   have := hall y k ho
   simp only [Int.toNat_natCast]
   by_cases c1 : y ≤ z <;> by_cases c2 : z < y + 2 ^ k <;> simp_all
  ·rfl
structure BudI (n : Nat) (x : Bud) : Prop where
 p2 : n ∈ p2s
 c : x.c = n
 tk : TkOK n x.tk
 fr : x.fr = canonL n (freeT n x.tk)
theorem BudI.ok {n : Nat} {x : Bud} (h : BudI n x) : BudOK n x.fr := by rw [h.fr]; exact canon_ok (p2_le n h.p2).2 freeT_lt
theorem BudI.len {n : Nat} {x : Bud} (h : BudI n x) (k : Nat) : (x.fr k).length ≤ 1024 := by rw [h.fr]; exact Nat.le_trans (canon_len _ _ _) (p2_le n h.p2).2
theorem BudI.head {n K y o : Nat} {x : Bud} {r : List Nat} (h : BudI n x) (hx : x.fr K = y :: r) (ho : o ≤ K) : (∃ q, y = q * 2 ^ o) ∧ ∀ z, y ≤ z → z < y + 2 ^ o → freeT n x.tk z = true := by
 rw [h.fr] at hx
 obtain ⟨Q, rfl, hM⟩ := (canon_mem freeT_lt).1 (show y ∈ canonL n (freeT n x.tk) K by rw [hx]; simp)
 refine ⟨⟨Q * 2 ^ (K - o), by rw [Nat.mul_assoc, ← Nat.pow_add]; congr 2; omega⟩, fun z h1 h2 => hM.1 z ?_⟩
 have := Nat.pow_le_pow_right (n := 2) (by decide) ho
 rw [Nat.div_eq_iff (pos2 K)]
 have := pos2 K
 omega
theorem freeT_put {n y o : Nat} {tk : Int → Option Int} (h : TkOK n tk) (ho : o < 11) (hq : ∃ q, y = q * 2 ^ o) (hf : ∀ z, y ≤ z → z < y + 2 ^ o → freeT n tk z = true) : TkOK n (putF tk y o) ∧ ∀ z, freeT n (putF tk y o) z = true ↔ (freeT n tk z = true ∧ ¬ (y ≤ z ∧ z < y + 2 ^ o)) := by
 have hp := pos2 o
 have hyn : y + 2 ^ o ≤ n := by
  have := freeT_lt _ (hf (y + 2 ^ o - 1) (by omega) (by omega))
  omega
 have hput : ∀ (z k : Nat), putF tk y o (z : Int) = some (k : Int) ↔ (z = y ∧ k = o) ∨ (z ≠ y ∧ tk (z : Int) = some (k : Int)) := fun z k => by
  unfold putF
  by_cases e : (z : Int) = (y : Int)
  ·rw [if_pos e]
   have : z = y := by omega
   simp only [this, true_and, ne_eq, not_true_eq_false, false_and, or_false, Option.some.injEq]
   omega
  ·rw [if_neg e]
   have : z ≠ y := fun h => e (by rw [h])
   simp [this]
 have hap : ∀ (z k : Nat), tk (z : Int) = some (k : Int) → z + 2 ^ k ≤ y ∨ y + 2 ^ o ≤ z := fun z k hz => by
  have hk := pos2 k
  have h1 := fun u h1 h2 => ((freeT_iff h u).1 (hf u h1 h2)).2 z k hz
  by_cases c1 : z + 2 ^ k ≤ y
  ·exact .inl c1
  by_cases c2 : y + 2 ^ o ≤ z
  ·exact .inr c2
  exfalso
  by_cases c3 : y ≤ z
  ·exact h1 z c3 (by omega) ⟨Nat.le_refl _, by omega⟩
  ·exact h1 y (Nat.le_refl _) (by omega) ⟨by omega, by omega⟩
 have hok : TkOK n (putF tk y o) := by
  refine ⟨fun z k hz => ?_, fun z z' k k' hz hz' hlt => ?_⟩
  ·unfold putF at hz
   split at hz
   ·rename_i e
    obtain ⟨q, rfl⟩ := hq
    cases hz
    exact ⟨q, o, e, rfl, ho, hyn⟩
   ·exact h.dom _ _ hz
  ·rw [hput] at hz hz'
   rcases hz with ⟨rfl, rfl⟩ | ⟨h1, h2⟩ <;> rcases hz' with ⟨rfl, rfl⟩ | ⟨h3, h4⟩
   ·omega
   ·have := hap _ _ h4
    have := pos2 k'
    omega
   ·have := hap _ _ h2
    have := pos2 k
    omega
   ·exact h.dis _ _ _ _ h2 h4 hlt
 refine ⟨hok, fun z => ?_⟩
 rw [freeT_iff hok, freeT_iff h]
 constructor
 ·rintro ⟨h1, h2⟩
  refine ⟨⟨h1, fun u k hu hc => ?_⟩, fun hc => h2 y o ((hput _ _).2 (.inl ⟨rfl, rfl⟩)) hc⟩
  by_cases e : u = y
  ·subst e
   have := hap _ _ hu
   have := pos2 k
   omega
  ·exact h2 u k ((hput _ _).2 (.inr ⟨e, hu⟩)) hc
 ·rintro ⟨⟨h1, h2⟩, h3⟩
  refine ⟨h1, fun u k hu hc => ?_⟩
  rcases (hput _ _).1 hu with ⟨rfl, rfl⟩ | ⟨_, h4⟩
  ·exact h3 hc
  ·exact h2 u k h4 hc
theorem BudI.take {n K y o : Nat} {x : Bud} {r : List Nat} (h : BudI n x) (hx : x.fr K = y :: r) (ho : o ≤ K) (hK : K < 11) (hmin : ∀ j, o ≤ j → j < K → x.fr j = []) : BudI n ⟨n, frAt x.fr K y o, putF x.tk y o⟩ := by
 obtain ⟨hq, hf⟩ := h.head hx ho
 obtain ⟨h1, h2⟩ := freeT_put h.tk (by omega) hq hf
 refine ⟨h.p2, rfl, h1, ?_⟩
 show frAt x.fr K y o = _
 rw [h.fr] at hx hmin ⊢
 exact canon_take freeT_lt hx ho hmin h2
theorem freeT_out {n y o : Nat} {tk : Int → Option Int} (h : TkOK n tk) (hy : tk (y : Int) = some (o : Int)) : TkOK n (outF tk y) ∧ ∀ z, freeT n (outF tk y) z = true ↔ (freeT n tk z = true ∨ (y ≤ z ∧ z < y + 2 ^ o)) := by
 obtain ⟨q, k, e1, e2, _, hyn⟩ := h.dom _ _ hy
 obtain rfl : o = k := by omega
 obtain rfl : y = q * 2 ^ o := by omega
 have hout : ∀ (z k : Nat), outF tk (q * 2 ^ o : Nat) (z : Int) = some (k : Int) ↔ z ≠ q * 2 ^ o ∧ tk (z : Int) = some (k : Int) := fun z k => by
  unfold outF
  by_cases e : (z : Int) = ((q * 2 ^ o : Nat) : Int)
  ·rw [if_pos e]
   have : z = q * 2 ^ o := by omega
   simp [this]
  ·rw [if_neg e]
   have : z ≠ q * 2 ^ o := fun h => e (by rw [h])
   simp [this]
 have hok : TkOK n (outF tk (q * 2 ^ o : Nat)) := by
  refine ⟨fun z k hz => ?_, fun z z' k k' hz hz' hlt => h.dis z z' k k' ((hout _ _).1 hz).2 ((hout _ _).1 hz').2 hlt⟩
  unfold outF at hz
  split at hz
  ·cases hz
  ·exact h.dom _ _ hz
 refine ⟨hok, fun z => ?_⟩
 rw [freeT_iff hok, freeT_iff h]
 have hp := pos2 o
 constructor
 ·rintro ⟨h1, h2⟩
  by_cases hc : q * 2 ^ o ≤ z ∧ z < q * 2 ^ o + 2 ^ o
  ·exact .inr hc
  ·refine .inl ⟨h1, fun u k hu hd => ?_⟩
   by_cases e : u = q * 2 ^ o
   ·subst e
    rw [hy] at hu
    have : o = k := by injection hu with hu; omega
    subst this
    exact hc hd
   ·exact h2 u k ((hout _ _).2 ⟨e, hu⟩) hd
 ·rintro (⟨h1, h2⟩ | ⟨h1, h2⟩)
  ·exact ⟨h1, fun u k hu hd => h2 u k ((hout _ _).1 hu).2 hd⟩
  ·refine ⟨by omega, fun u k hu hd => ?_⟩
   obtain ⟨e, hu⟩ := (hout _ _).1 hu
   have hk := pos2 k
   rcases Nat.lt_or_gt_of_ne e with e | e
   ·have := h.dis _ _ _ _ hu hy e
    omega
   ·have := h.dis _ _ _ _ hy hu e
    omega
def cnt (p : Nat → Bool) : Nat → Nat
 | 0 => 0
 | n + 1 => cnt p n + (if p n = true then 1 else 0)
end Go.Proofs.YtenkdmloolbdaaaGreatDoor.T
end
section
namespace Go.Proofs.YtenkdmloolbdaaaGreatDoor.T
open Go.RowKit Go.Maps Go.WideShapes Go.Proofs.YtenkdmloolbdaaaGreatDoorW.PrintWords Go.Proofs.YtenkdmloolbdaaaGreatDoorW.PrintLast Go.Proofs.YtenkdmloolbdaaaGreatDoorW.PrintMore
theorem xor_all : ((List.range 10).all fun k => (List.range 1024).all fun y => y % 2 ^ k != 0 || (Go.bits .xor .i64 ((y : Nat) : Int) ((2 ^ k : Nat) : Int) == (((if y / 2 ^ k % 2 = 0 then y / 2 ^ k + 1 else y / 2 ^ k - 1) * 2 ^ k : Nat) : Int) && Go.bits .andNot .i64 ((y : Nat) : Int) ((2 ^ k : Nat) : Int) == ((y / 2 ^ k / 2 * 2 ^ (k + 1) : Nat) : Int))) = true := by decide +kernel
theorem xor_at (k q : Nat) (hk : k < 10) (hq : q * 2 ^ k < 1024) : Go.bits .xor .i64 ((q * 2 ^ k : Nat) : Int) ((2 ^ k : Nat) : Int) = (((if q % 2 = 0 then q + 1 else q - 1) * 2 ^ k : Nat) : Int) ∧ Go.bits .andNot .i64 ((q * 2 ^ k : Nat) : Int) ((2 ^ k : Nat) : Int) = ((q / 2 * 2 ^ (k + 1) : Nat) : Int) := by
 have h := xor_all
 rw [List.all_eq_true] at h
 have h := h k (by simpa using hk)
 rw [List.all_eq_true] at h
 have h := h (q * 2 ^ k) (by simpa using hq)
 rw [Nat.mul_mod_left, pt_in] at h
 simpa using h
theorem BuddyK.erase {κ : Kol} {i b n c : Nat} {w : World} {fr : Nat → List Nat} {tk : Int → Option Int} (h : BuddyK κ i w b n c fr tk) (k : Nat) (hk : k < 11) (x : Nat) (hx : I64 (x : Int)) (he : x ∈ fr k) (ty : TypeId) :
 ∃ mk w1, w.cell? ⟨b, 1 + k, none⟩ = some (.map (some mk)) ∧ (Builtin.delete_ #[196, 3] ty #[.map (some mk), .int .i64 x]).run Tryz.prog w = .ok (.tuple #[]) w1 ∧ BuddyK κ i w1 b n c (fun j => if j = k then (fr k).erase x else fr j) tk ∧ Upd (· = i + 1 + k) κ w κ w1 := by
 obtain ⟨m, t, h1, h2, h3⟩ := h
 obtain ⟨hkol, D, hown, hsv⟩ := h2 k hk
 obtain ⟨w1, hrun, hown1, hg⟩ := hown.drop int_law Tryz.underlying196 (keyOf_int_mk Tryz.underlying3 hx) ty
 have hU := Upd.of_turned hg hkol
 refine ⟨m k, w1, h1.blk.at (1 + k) _ (bud_at' n m t k hk), hrun, ⟨m, t, h1.upd hU (by omega), fun j hj => ?_, h3.upd hU (by omega)⟩, hU⟩
 by_cases e : j = k
 ·subst e
  rw [if_pos rfl]
  have hd := hsv.del (hown.tidy int_law) x he hx
  have ht := own_tight hown1
  rw [hd.size] at ht
  exact ⟨hkol, _, ht, hd⟩
 ·rw [if_neg e]
  exact (h2 j hj).upd hU (by omega)
theorem BuddyK.putin {κ : Kol} {i b n c : Nat} {w : World} {fr : Nat → List Nat} {tk : Int → Option Int} (h : BuddyK κ i w b n c fr tk) (k : Nat) (hk : k < 11) (x : Nat) (hx : I64 (x : Int)) (he : x ∉ fr k) (hlen : (fr k).length < 100000) (s1 : List Nat) (hp : s1.Perm (x :: fr k)) :
 ∃ mk w1, w.cell? ⟨b, 1 + k, none⟩ = some (.map (some mk)) ∧ (Instr.mapUpdate 196 (.map (some mk)) (.int .i64 x) (.bool true)).run Tryz.prog w = .ok () w1 ∧ BuddyK κ i w1 b n c (fun j => if j = k then s1 else fr j) tk ∧ Upd (· = i + 1 + k) κ w κ w1 := by
 obtain ⟨m, t, h1, h2, h3⟩ := h
 obtain ⟨hkol, D, hown, hsv⟩ := h2 k hk
 obtain ⟨w1, hrun, hown1, hg⟩ := hown.update int_law Tryz.underlying196 (by simp only [maxLen]; omega) (keyOf_int_mk Tryz.underlying3 hx) (plainElem_bool Tryz.underlying4 true)
 have hU := Upd.of_grown hg hkol
 refine ⟨m k, w1, h1.blk.at (1 + k) _ (bud_at' n m t k hk), hrun, ⟨m, t, h1.upd hU (by omega), fun j hj => ?_, h3.upd hU (by omega)⟩, hU⟩
 by_cases e : j = k
 ·subst e
  rw [if_pos rfl]
  have := hp.length_eq
  rw [List.length_cons] at this
  rw [← this] at hown1
  exact ⟨hkol, _, hown1, hsv.put (hown.tidy int_law) x he hx hp⟩
 ·rw [if_neg e]
  exact (h2 j hj).upd hU (by omega)
theorem BuddyK.strike {κ : Kol} {i b n c : Nat} {w : World} {fr : Nat → List Nat} {tk : Int → Option Int} (h : BuddyK κ i w b n c fr tk) (x : Nat) (hx : I64 (x : Int)) (ty : TypeId) :
 ∃ t w1, w.cell? ⟨b, 12, none⟩ = some (.map (some t)) ∧ (Builtin.delete_ #[127, 3] ty #[.map (some t), .int .i64 x]).run Tryz.prog w = .ok (.tuple #[]) w1 ∧ BuddyK κ i w1 b n c fr (outF tk x) ∧ Upd (· = i + 12) κ w κ w1 := by
 obtain ⟨m, t, h1, h2, hkol, D, hown, hsv⟩ := h
 obtain ⟨w1, hrun, hown1, hg⟩ := hown.drop int_law Tryz.underlying127 (keyOf_int_mk Tryz.underlying3 hx) ty
 have hU := Upd.of_turned hg hkol
 exact ⟨t, w1, h1.blk.at 12 _ rfl, hrun, ⟨m, t, h1.upd hU (by omega), fun j hj => (h2 j hj).upd hU (by omega), hkol, _, hown1, hsv.del _⟩, hU⟩
theorem MapI.look2 {κ : Kol} {i : Nat} {w : World} {b n : Nat} {f : Int → Option Int} (h : MapI κ i w b n f) (x : Int) (hx : I64 x) :
 (Instr.lookup 127 (.map (some b)) (.int .i64 x) true).run Tryz.prog w = .ok (.tuple #[.int .i64 ((f x).getD 0), .bool (f x).isSome]) w := by
 obtain ⟨hk, D, ho, hv⟩ := h
 obtain ⟨v, ps, hrun, hr⟩ := ho.look_ok int_law Tryz.underlying127 (zero_int w) (plainElem_int Tryz.underlying3 (by decide)) (keyOf_int_mk Tryz.underlying3 hx)
 rw [hrun, (hv x hx).1]
 obtain ⟨c, rfl, hc, _⟩ := plainElem_int_inv Tryz.underlying3 hr
 simp only [Prod.mk.injEq] at hc
 rw [view_c hv hx hc.1]
theorem zero_bool (w : World) : (zeroValue 4).run Tryz.prog w = .ok (.bool false) w := Tryz.zeroValue4 w
theorem SetK.look {κ : Kol} {i : Nat} {w : World} {b : Nat} {s : List Nat} (h : SetK κ i w b s) (x : Nat) (hx : I64 (x : Int)) :
 (Instr.lookup 196 (.map (some b)) (.int .i64 x) false).run Tryz.prog w = .ok (.bool (decide (x ∈ s))) w := by
 obtain ⟨hk, D, ho, hv⟩ := h
 obtain ⟨v, ps, hrun, hr⟩ := ho.lookup int_law Tryz.underlying196 (zero_bool w) (plainElem_bool Tryz.underlying4 false) (keyOf_int_mk Tryz.underlying3 hx)
 rw [hrun]
 rw [(hv.view x hx).2] at hr
 obtain ⟨c, rfl⟩ := bool_inv hr
 rw [plainElem_bool Tryz.underlying4 c] at hr
 simp only [Option.some.injEq, Prod.mk.injEq, DataW.lit.injEq, Lit.bool.injEq, and_true] at hr
 rw [hr.1, inS_nat]
def cutB (L : Nat → List Nat) (q k : Nat) : Nat → List Nat := fun j => (L j).filter fun x => !(decide (j ≤ k) && decide (x / 2 ^ k = q))
theorem cutB_mem {L : Nat → List Nat} {q k j x : Nat} : x ∈ cutB L q k j ↔ x ∈ L j ∧ ¬ (j ≤ k ∧ x / 2 ^ k = q) := by
 unfold cutB
 rw [List.mem_filter]
 refine and_congr_right fun _ => ?_
 by_cases c1 : j ≤ k <;> by_cases c2 : x / 2 ^ k = q <;> simp [c1, c2]
theorem blk_div (r j k : Nat) (h : j ≤ k) : r * 2 ^ j / 2 ^ k = r / 2 ^ (k - j) := by
 have : k = j + (k - j) := by omega
 rw [this, div_up, pt_in]
 congr 2
 omega
theorem cutB_start {n q o : Nat} {F : Nat → Bool} (hF : ∀ z, F z = true → z < n) (h0 : ∀ z, z / 2 ^ o = q → F z = false) : cutB (canonL n F) q o = canonL n F := by
 funext j
 unfold cutB
 rw [List.filter_eq_self]
 intro x hx
 obtain ⟨r, rfl, h1, _⟩ := (canon_mem hF).1 hx
 have : ¬ (j ≤ o ∧ r * 2 ^ j / 2 ^ o = q) := fun ⟨_, h3⟩ => by
  have := h1 (r * 2 ^ j) (pt_in _ _)
  rw [h0 _ h3] at this
  cases this
 by_cases c1 : j ≤ o <;> by_cases c2 : r * 2 ^ j / 2 ^ o = q <;> simp_all
theorem cutB_step {n q k : Nat} {F : Nat → Bool} (hF : ∀ z, F z = true → z < n) (hs : MBq F (if q % 2 = 0 then q + 1 else q - 1) k) :
 (fun j => if j = k then (cutB (canonL n F) q k k).erase ((if q % 2 = 0 then q + 1 else q - 1) * 2 ^ k) else cutB (canonL n F) q k j) = cutB (canonL n F) (q / 2) (k + 1) := by
 have hso : ∀ j, (cutB (canonL n F) q k j).Pairwise (· < ·) := fun j => List.Pairwise.filter _ (canon_sorted _ _ _)
 have hst : (cutB (canonL n F) (q / 2) (k + 1)) = fun j => cutB (canonL n F) (q / 2) (k + 1) j := rfl
 rw [hst]
 funext j
 have hm : ∀ x, (x ∈ canonL n F j ∧ ¬ (j ≤ k ∧ x / 2 ^ k = q) ∧ ¬ (j = k ∧ x = (if q % 2 = 0 then q + 1 else q - 1) * 2 ^ k)) ↔ x ∈ cutB (canonL n F) (q / 2) (k + 1) j := fun x => by
  rw [cutB_mem]
  constructor
  ·rintro ⟨h1, h2, h3⟩
   obtain ⟨r, rfl, h4⟩ := (canon_mem hF).1 h1
   refine ⟨h1, fun ⟨h5, h6⟩ => ((MBq.fellow hs r j).1 ⟨h4, fun ⟨h7, h8⟩ => h2 ⟨h7, by rw [blk_div _ _ _ h7]; exact h8⟩, fun ⟨h7, h8⟩ => h3 ⟨h7, by rw [h8, h7]⟩⟩).2 ⟨h5, by rw [← blk_div _ _ _ h5]; exact h6⟩⟩
  ·rintro ⟨h1, h2⟩
   obtain ⟨r, rfl, h4⟩ := (canon_mem hF).1 h1
   obtain ⟨_, h5, h6⟩ := (MBq.fellow hs r j).2 ⟨h4, fun ⟨h7, h8⟩ => h2 ⟨h7, by rw [blk_div _ _ _ h7]; exact h8⟩⟩
   exact ⟨h1, fun ⟨h7, h8⟩ => h5 ⟨h7, by rw [← blk_div _ _ _ h7]; exact h8⟩, fun ⟨h7, h8⟩ => h6 ⟨h7, by rw [h7] at h8; exact Nat.eq_of_mul_eq_mul_right (pos2 k) h8⟩⟩
 split
 ·rename_i e
  subst e
  have hnd : (cutB (canonL n F) q j j).Nodup := (hso j).imp (fun h => Nat.ne_of_lt h)
  rw [hnd.erase_eq_filter]
  refine sorted_ext (List.Pairwise.filter _ (hso j)) (List.Pairwise.filter _ (canon_sorted _ _ _)) (fun x => ?_)
  rw [List.mem_filter, cutB_mem, ← hm x]
  simp only [true_and, bne_iff_ne, ne_eq, Nat.le_refl]
  exact and_assoc
 ·rename_i e
  refine sorted_ext (hso j) (List.Pairwise.filter _ (canon_sorted _ _ _)) (fun x => ?_)
  rw [cutB_mem, ← hm x]
  simp only [e, false_and, not_false_eq_true, and_true]
theorem cutB_done {n q k q0 o : Nat} {F F1 : Nat → Bool} (hF : ∀ z, F z = true → z < n) (hFn : ∀ z, F1 z = true → z < n) (hok : o ≤ k) (hq : q0 / 2 ^ (k - o) = q) (h0 : ∀ z, z / 2 ^ o = q0 → F z = false) (hF1 : ∀ z, F1 z = true ↔ (F z = true ∨ z / 2 ^ o = q0)) (hin : FRq F1 q k) (hsib : ¬ MBq F (if q % 2 = 0 then q + 1 else q - 1) k) :
 (∀ j, j ≠ k → cutB (canonL n F) q k j = canonL n F1 j) ∧ q * 2 ^ k ∉ cutB (canonL n F) q k k ∧ (canonL n F1 k).Perm (q * 2 ^ k :: cutB (canonL n F) q k k) := by
 have hso : ∀ j, (cutB (canonL n F) q k j).Pairwise (· < ·) := fun j => List.Pairwise.filter _ (canon_sorted _ _ _)
 have hG := fun r j => MBq.given hok hq h0 hF1 hin hsib r j
 have hm : ∀ j x, x ∈ canonL n F1 j ↔ (j = k ∧ x = q * 2 ^ k) ∨ x ∈ cutB (canonL n F) q k j := fun j x => by
  rw [cutB_mem, canon_mem hFn]
  constructor
  ·rintro ⟨r, rfl, hr⟩
   have := (hG r j).1 hr
   split at this
   ·rename_i e
    exact .inl ⟨e.1, by rw [e.1, e.2]⟩
   ·exact .inr ⟨(canon_q hF).2 this.1, fun ⟨h1, h2⟩ => this.2 ⟨h1, by rw [← blk_div _ _ _ h1]; exact h2⟩⟩
  ·rintro (⟨rfl, rfl⟩ | ⟨h1, h2⟩)
   ·exact ⟨q, rfl, (hG q j).2 (by rw [if_pos ⟨rfl, rfl⟩]; trivial)⟩
   ·obtain ⟨r, rfl, hr⟩ := (canon_mem hF).1 h1
    refine ⟨r, rfl, (hG r j).2 ?_⟩
    split
    ·trivial
    ·exact ⟨hr, fun ⟨h3, h4⟩ => h2 ⟨h3, by rw [blk_div _ _ _ h3]; exact h4⟩⟩
 have hno : q * 2 ^ k ∉ cutB (canonL n F) q k k := fun h => (cutB_mem.1 h).2 ⟨Nat.le_refl _, pt_in _ _⟩
 refine ⟨fun j hj => sorted_ext (hso j) (canon_sorted _ _ _) (fun x => by rw [hm]; simp [hj]), hno, ?_⟩
 rw [List.perm_ext_iff_of_nodup ((canon_sorted _ _ _).imp fun h => Nat.ne_of_lt h) (List.nodup_cons.2 ⟨hno, (hso k).imp fun h => Nat.ne_of_lt h⟩)]
 intro x
 rw [hm, List.mem_cons]
 simp
theorem BuddyK.gave {κ : Kol} {i b n c q k q0 o : Nat} {w : World} {F F1 : Nat → Bool} {tk1 : Int → Option Int} (h : BuddyK κ i w b n c (cutB (canonL n F) q k) tk1) (hk : k < 11) (hn : n ≤ 1024)
 (hF : ∀ z, F z = true → z < n) (hFn : ∀ z, F1 z = true → z < n) (hF1 : ∀ z, F1 z = true ↔ (F z = true ∨ z / 2 ^ o = q0)) (h0 : ∀ z, z / 2 ^ o = q0 → F z = false) (hok : o ≤ k) (hq : q0 / 2 ^ (k - o) = q) (hin : FRq F1 q k) (hsib : ¬ MBq F (if q % 2 = 0 then q + 1 else q - 1) k) :
 ∃ mk w1, w.cell? ⟨b, 1 + k, none⟩ = some (.map (some mk)) ∧ (Instr.mapUpdate 196 (.map (some mk)) (.int .i64 ((q * 2 ^ k : Nat) : Int)) (.bool true)).run Tryz.prog w = .ok () w1 ∧ BuddyK κ i w1 b n c (canonL n F1) tk1 ∧ Upd (· = i + 1 + k) κ w κ w1 := by
 obtain ⟨g1, g2, g3⟩ := cutB_done hF hFn hok hq h0 hF1 hin hsib
 have hb := hFn _ (hin (q * 2 ^ k) (pt_in _ _))
 obtain ⟨mk, w1, k1, k2, k3, k4⟩ := h.putin k hk (q * 2 ^ k) (i64o _ (by omega) (by omega)) g2 (by
  have : (cutB (canonL n F) q k k).length ≤ (canonL n F k).length := List.length_filter_le _ _
  have := canon_len n F k
  omega) _ g3
 refine ⟨mk, w1, k1, k2, ?_, k4⟩
 have e : (fun j => if j = k then canonL n F1 k else cutB (canonL n F) q k j) = canonL n F1 := by
  funext j
  split
  ·rename_i e; rw [e]
  ·rename_i e; exact g1 j e
 rw [e] at k3
 exact k3
theorem no_fellow {n q k : Nat} {F : Nat → Bool} (hF : ∀ z, F z = true → z < n) (h : (if q % 2 = 0 then q + 1 else q - 1) * 2 ^ k ∉ cutB (canonL n F) q k k) : ¬ MBq F (if q % 2 = 0 then q + 1 else q - 1) k := fun hm => h (cutB_mem.2 ⟨(canon_q hF).2 hm, fun ⟨_, e⟩ => by
 rw [pt_in] at e
 split at e <;> omega⟩)
def RelGv (κ : Kol) (i b n c o q0 : Nat) (F F1 : Nat → Bool) (tk1 : Int → Option Int) (w : World) (v1 v2 : Value) (wr : World) : Prop :=
 ∃ q k : Nat, v1 = .int .i64 ((q * 2 ^ k : Nat) : Int) ∧ v2 = .int .i64 ((k : Nat) : Int) ∧ o ≤ k ∧ k ≤ 10 ∧ q0 / 2 ^ (k - o) = q ∧ FRq F1 q k ∧ BuddyK κ i wr b n c (cutB (canonL n F) q k) tk1 ∧ Upd (fun y => i < y ∧ y < i + 13) κ w κ wr
theorem give_bud (κ : Kol) (i b n c o q0 : Nat) (tk : Int → Option Int) (hn : n ≤ 1024) (hT : TkOK n tk) (hy : tk ((q0 * 2 ^ o : Nat) : Int) = some (o : Int)) (ho : o < 11) (hyn : q0 * 2 ^ o + 2 ^ o ≤ n) (w : World) (h : BuddyK κ i w b n c (canonL n (freeT n tk)) tk) :
 Calls Tryz.prog 159 #[.pointer (some ⟨b, 0, none⟩), .int .i64 ((q0 * 2 ^ o : Nat) : Int), .int .i64 o] w fun e w' => e = .returned (.int .i64 0) ∧ BuddyK κ i w' b n c (canonL n (freeT n (outF tk ((q0 * 2 ^ o : Nat) : Int)))) (outF tk ((q0 * 2 ^ o : Nat) : Int)) ∧ Upd (fun z => i < z ∧ z < i + 13) κ w κ w' := by
 obtain ⟨F, hFe⟩ : ∃ F, freeT n tk = F := ⟨_, rfl⟩
 obtain ⟨tk1, htk1⟩ : ∃ tk1, outF tk ((q0 * 2 ^ o : Nat) : Int) = tk1 := ⟨_, rfl⟩
 obtain ⟨F1, hF1e⟩ : ∃ F1, freeT n tk1 = F1 := ⟨_, rfl⟩
 have hp := pos2 o
 have hblk : ∀ z, (q0 * 2 ^ o ≤ z ∧ z < q0 * 2 ^ o + 2 ^ o) ↔ z / 2 ^ o = q0 := fun z => by rw [Nat.div_eq_iff hp]; omega
 have hF : ∀ z, F z = true → z < n := fun z hz => freeT_lt z (by rw [hFe]; exact hz)
 have hF1n : ∀ z, F1 z = true → z < n := fun z hz => freeT_lt z (by rw [hF1e]; exact hz)
 have hF1 : ∀ z, F1 z = true ↔ (F z = true ∨ z / 2 ^ o = q0) := fun z => by rw [← hF1e, ← htk1, (freeT_out hT hy).2 z, hblk, hFe]
 have h0 : ∀ z, z / 2 ^ o = q0 → F z = false := fun z hz => by
  cases hc : F z with
  | false => rfl
  | true => exact absurd ((hblk z).2 hz) (((freeT_iff hT z).1 (by rw [hFe]; exact hc)).2 _ _ hy)
 have HC := ak (And.intro hF (And.intro hF1n (And.intro hF1 h0)))
 have hy1 : q0 * 2 ^ o < 1024 := by omega
 have hIy := i64o ((q0 * 2 ^ o : Nat) : Int) (by omega) (by omega)
 have HIY := ak hIy
 have HR := ak (right_own b o ho w)
 have HLK := ak (show ∃ t, w.cell? ⟨b, 12, none⟩ = some (.map (some t)) ∧ (Instr.lookup 127 (.map (some t)) (.int .i64 ((q0 * 2 ^ o : Nat) : Int)) true).run Tryz.prog w = .ok (.tuple #[.int .i64 (o : Int), .bool true]) w from by
  obtain ⟨m, t, h1, h2, h3⟩ := h
  refine ⟨t, h1.blk.at 12 _ rfl, ?_⟩
  have := h3.look2 _ hIy
  rw [hy] at this
  exact this)
 rw [hFe] at h
 rw [htk1, hF1e]
 have HB0 := ak h
 have HT1 := ak htk1
 have HYN := ak hyn
 clear h hT hy hFe hF1e hF hF1n hF1 h0 hblk hIy htk1 hp hyn
 obtain ⟨y, hye⟩ : ∃ y, q0 * 2 ^ o = y := ⟨_, rfl⟩
 have HYE := ak hye
 rw [hye] at HLK HIY HYN HT1 hy1 ⊢
 clear hye
 obtain ⟨t0, s0, hlk⟩ := HLK.1
 obtain ⟨t1, w1, s1, hdel, hb1, hu1⟩ := HB0.1.strike y HIY.1 0
 obtain rfl : t1 = t0 := by have e_ := s0.symm.trans s1; injection e_ with e_; injection e_ with e_; injection e_ with e_; exact e_.symm
 rw [HT1.1] at hb1
 have HB1 := ak hb1
 have HU1 := ak hu1
 clear s1 hb1 hu1 HLK
 go_enter Tryz.func159, Tryz.ntmps159
 go_wp2_with (first | (go_at_call 129; (with_reducible refine HR.1.mono ?_); rintro e_ w9 ⟨rfl, rfl⟩))
 have H0 := ak (show RelGv κ i b n c o q0 F F1 tk1 w9 (.int .i64 (y : Int)) (.int .i64 (o : Int)) w1 from ⟨q0, o, by rw [HYE.1], rfl, Nat.le_refl _, by omega, by simp, fun z hz => (HC.1.2.2.1 z).2 (.inr hz), by rw [cutB_start HC.1.1 HC.1.2.2.2]; exact HB1.1, HU1.1.mono (fun z e => by omega)⟩)
 clear HB1 HU1 hdel hlk s0 HB0 HT1
 go_loopw [1, 2] (fun v1 v2 wr => RelGv κ i b n c o q0 F F1 tk1 w9 v1 v2 wr) (fun _ v2 _ => 10 - (RowKit.intOf v2).toNat)
 case atStart => exact H0.1
 case round =>
  clear H0
  obtain ⟨q, k, rfl, rfl, hok, hk, hq, hin, hb, hu⟩ := hrel
  have HR := ak (And.intro hok (And.intro hq hin))
  have HB := ak hb
  have HU := ak hu
  have hq1 : q * 2 ^ k < 1024 := by
   have := HC.1.2.1 _ (hin (q * 2 ^ k) (pt_in _ _))
   omega
  clear hq hin hb hu hok
  obtain ⟨p, hp⟩ : ∃ p, 2 ^ k = p := ⟨_, rfl⟩
  obtain ⟨y1, hy2⟩ : ∃ y1, q * 2 ^ k = y1 := ⟨_, rfl⟩
  have es := shl_64 k (by omega)
  rw [hp] at es
  have HY := ak (And.intro hp hy2)
  by_cases hlt : k < 10
  ·obtain ⟨ex, ea⟩ := xor_at k q hlt hq1
   obtain ⟨sb, hsb⟩ : ∃ sb, (if q % 2 = 0 then q + 1 else q - 1) = sb := ⟨_, rfl⟩
   rw [hsb] at ex
   obtain ⟨z, hz⟩ : ∃ z, sb * 2 ^ k = z := ⟨_, rfl⟩
   obtain ⟨u, hu⟩ : ∃ u, q / 2 * 2 ^ (k + 1) = u := ⟨_, rfl⟩
   rw [hz, hy2, hp] at ex
   rw [hu, hy2, hp] at ea
   rw [hy2] at hq1 ⊢
   have hz1 : z ≤ 100000 := by
    have : z ≤ y1 + p := by rw [← hz, ← hy2, ← hp, ← hsb, ← Nat.succ_mul]; exact Nat.mul_le_mul_right _ (by split <;> omega)
    have := pow_le11 k (by omega)
    omega
   have HI := ak (i64o (z : Int) (by omega) (by omega))
   have HZ := ak (And.intro hsb (And.intro hz hu))
   obtain ⟨m, t, g1, g2, g3⟩ := HB.1
   have hmk := g1.blk.at (1 + k) _ (bud_at' n m t k (by omega))
   have hlk := ((g2 k (by omega)).below (below_drew (RowKit.Below.refl wr.heap.size wr))).look z HI.1
   obtain ⟨d, hd⟩ : ∃ d, decide (z ∈ cutB (canonL n F) q k k) = d := ⟨_, rfl⟩
   rw [hd] at hlk
   have HD := ak hd
   generalize m k = mk at hmk hlk
   have k10 : (k : Int) < 10 := by omega
   have k11 : (k : Int) < 11 := by omega
   have k0 : (0 : Int) ≤ (k : Int) := by omega
   clear g1 g2 g3 hp hy2 hsb hz hu hd hz1 hq1 hk
   go_upto_region 7 with fail
   cases d with
   | true =>
    refine st_ 15 (fun w' => w'.cell? ⟨b, 1 + k, none⟩ = some (.map (some mk)) ∧ (Instr.lookup 196 (.map (some mk)) (.int .i64 (z : Int)) false).run Tryz.prog w' = .ok (.bool true) w') [] ⟨hmk, hlk⟩ (fun hHeld => ?_)
    have hd_ := below_drew (RowKit.Below.refl wr.heap.size wr)
    have n0_ := ak (HB.1.upd (I := fun _ => False) (Upd.of_below κ hd_) (fun _ _ h => h))
    have n1_ := ak (HU.1.below hd_)
    clear HB HU hd_
    have HB := n0_
    have HU := n1_
    clear n0_ n1_
    clear hmk hlk
    generalize wr.drew = wd at *
    refine pu_ 0 34 1 ?_
    refine pu_ 1 35 3 ?_
    refine pu_ 2 36 7 ?_
    refine pu_ 3 37 15 ?_
    refine pu_ 4 38 31 ?_
    refine pu_ 5 39 63 ?_
    refine pu_ 6 40 127 ?_
    refine pu_ 7 41 255 ?_
    refine pu_ 9 43 767 ?_
    refine pu_ 10 44 1791 ?_
    refine pu_ 11 45 3839 ?_
    refine pu_ 12 46 7935 ?_
    refine ta_ 8 42 8191 hHeld ?_
    refine ta_ 13 47 16383 hHeld ?_
    refine pu_ 14 48 32767 ?_
    refine done_ (by kernel_rfl) ?_
    have hmem : z ∈ cutB (canonL n F) q k k := of_decide_eq_true HD.1
    have HMB := ak (show MBq F (if q % 2 = 0 then q + 1 else q - 1) k from by
     rw [HZ.1.1]
     exact (canon_q HC.1.1).1 (by rw [HZ.1.2.1]; exact (cutB_mem.1 hmem).1))
    clear hmem
    go_upto_region 9 with fail
    obtain ⟨m2, t2, h1, h1r⟩ := HB.1
    have hmk := h1.blk.at (1 + k) _ (bud_at' n m2 t2 k (by omega))
    clear h1 h1r
    generalize m2 k = mk2 at hmk
    refine st_ 11 (fun w' => w'.cell? ⟨b, 1 + k, none⟩ = some (.map (some mk2))) [10] (hmk) (fun hHeld => ?_)
    have hd_ := below_drew (RowKit.Below.refl wd.heap.size wd)
    have n0_ := ak (HB.1.upd (I := fun _ => False) (Upd.of_below κ hd_) (fun _ _ h => h))
    have n1_ := ak (HU.1.below hd_)
    clear HB HU hd_
    have HB := n0_
    have HU := n1_
    clear n0_ n1_
    clear hmk
    generalize wd.drew = we at *
    obtain ⟨mk3, w5, t0, hrun, hbud, hu5⟩ := HB.1.erase k (by omega) z HI.1 (of_decide_eq_true HD.1) 0
    obtain rfl : mk3 = mk2 := by have e_ := hHeld.symm.trans t0; injection e_ with e_; injection e_ with e_; injection e_ with e_; exact e_.symm
    clear t0
    have HB5 := ak hbud
    have HU5 := ak (HU.1.then hu5 (fun y e => by omega))
    clear hbud hu5 HB HU
    refine pu_ 0 51 1 ?_
    refine pu_ 1 52 3 ?_
    refine pu_ 2 53 7 ?_
    refine pu_ 3 54 15 ?_
    refine pu_ 4 55 31 ?_
    refine pu_ 6 57 95 ?_
    refine pu_ 7 58 223 ?_
    refine pu_ 8 59 479 ?_
    refine pu_ 9 60 991 ?_
    refine ta_ 5 56 1023 hHeld ?_
    refine last_ (i := 10) (N := none) (bz 11 2047) rfl rfl (by kernel_rfl) (by decide) (fun K hK => ?_)
    refine va_ ?_
    refine hK.out _ _ ?_
    clear hK K
    refine done_ (by kernel_rfl) ?_
    simp only [Act.put]
    have kk : wrap64 ((k : Int) + 1) = (k : Int) + 1 := IntWalk.wrap64_in _ ⟨by omega, by omega⟩
    clear hrun hHeld ex
    go_wp2_with fail
    refine ⟨⟨q / 2, k + 1, by rw [HZ.1.2.2], by simp [kk], by have := HR.1.1; omega, by omega, ?_, ?_, ?_, HU5.1⟩, ?_⟩
    ·have := HR.1.2.1
     have e1 : k + 1 - o = k - o + 1 := by have := HR.1.1; omega
     rw [e1, div_up, this]
    ·intro v hv
     rw [HC.1.2.2.1]
     by_cases hvq : v / 2 ^ k = q
     ·exact (HC.1.2.2.1 v).1 (HR.1.2.2 v hvq)
     ·refine .inl (HMB.1.1 v ?_)
      have : v / 2 ^ k / 2 = q / 2 := by rw [← hv, div_up]
      split <;> omega
    ·have h5 := HB5.1
     rw [← HZ.1.2.1, ← HZ.1.1, cutB_step HC.1.1 HMB.1] at h5
     exact h5
    ·simp only [RowKit.intOf]; omega
   | false =>
    refine st_ 15 (fun w' => w'.cell? ⟨b, 1 + k, none⟩ = some (.map (some mk)) ∧ (Instr.lookup 196 (.map (some mk)) (.int .i64 (z : Int)) false).run Tryz.prog w' = .ok (.bool false) w') [] ⟨hmk, hlk⟩ (fun hHeld => ?_)
    have hd_ := below_drew (RowKit.Below.refl wr.heap.size wr)
    have n0_ := ak (HB.1.upd (I := fun _ => False) (Upd.of_below κ hd_) (fun _ _ h => h))
    have n1_ := ak (HU.1.below hd_)
    clear HB HU hd_
    have HB := n0_
    have HU := n1_
    clear n0_ n1_
    clear hmk hlk
    generalize wr.drew = wd at *
    refine pu_ 0 34 1 ?_
    refine pu_ 1 35 3 ?_
    refine pu_ 2 36 7 ?_
    refine pu_ 3 37 15 ?_
    refine pu_ 4 38 31 ?_
    refine pu_ 5 39 63 ?_
    refine pu_ 6 40 127 ?_
    refine pu_ 7 41 255 ?_
    refine pu_ 9 43 767 ?_
    refine pu_ 10 44 1791 ?_
    refine pu_ 11 45 3839 ?_
    refine pu_ 12 46 7935 ?_
    refine ta_ 8 42 8191 hHeld ?_
    refine ta_ 13 47 16383 hHeld ?_
    refine pu_ 14 48 32767 ?_
    refine done_ (by kernel_rfl) ?_
    have hno : z ∉ cutB (canonL n F) q k k := of_decide_eq_false HD.1
    rw [← HZ.1.2.1, ← HZ.1.1] at hno
    obtain ⟨mk3, w6, s6, hrun6, hb6, hu6⟩ := HB.1.gave (by omega) hn HC.1.1 HC.1.2.1 HC.1.2.2.1 HC.1.2.2.2 HR.1.1 HR.1.2.1 HR.1.2.2 (no_fellow HC.1.1 hno)
    rw [HY.1.2] at hrun6
    obtain rfl : mk3 = mk := by have e_ := hHeld.1.symm.trans s6; injection e_ with e_; injection e_ with e_; injection e_ with e_; exact e_.symm
    clear s6
    have HB6 := ak hb6
    have HU6 := ak (HU.1.then hu6 (fun y e => by omega))
    clear hno hb6 hu6 HB HU
    go_wp2_with fail
    go_ret
    exact ⟨rfl, HB6.1, HU6.1⟩
  ·obtain rfl : k = 10 := by omega
   have hsib : ¬ MBq F (if q % 2 = 0 then q + 1 else q - 1) 10 := fun h => by
    have h1 := HC.1.1 _ (h.1 ((if q % 2 = 0 then q + 1 else q - 1) * 2 ^ 10) (pt_in _ _))
    have : q = 0 := by omega
    rw [this] at h1
    simp at h1
    omega
   have HS := ak hsib
   rw [hy2]
   clear hsib hp hy2 hq1 hk hlt
   go_upto_region 7 with fail
   refine st_ 15 (fun w' => True) [] trivial (fun hHeld => ?_)
   have hd_ := below_drew (RowKit.Below.refl wr.heap.size wr)
   have n0_ := ak (HB.1.upd (I := fun _ => False) (Upd.of_below κ hd_) (fun _ _ h => h))
   have n1_ := ak (HU.1.below hd_)
   clear HB HU hd_
   have HB := n0_
   have HU := n1_
   clear n0_ n1_
   generalize wr.drew = wd at *
   refine pu_ 0 34 1 ?_
   refine pu_ 1 35 3 ?_
   refine pu_ 2 36 7 ?_
   refine po_ 3 37 15 ?_
   refine po_ 4 38 31 ?_
   refine po_ 5 39 63 ?_
   refine po_ 6 40 127 ?_
   refine po_ 7 41 255 ?_
   refine po_ 8 42 511 ?_
   refine po_ 9 43 1023 ?_
   refine po_ 10 44 2047 ?_
   refine po_ 11 45 4095 ?_
   refine po_ 12 46 8191 ?_
   refine po_ 13 47 16383 ?_
   refine pu_ 14 48 32767 ?_
   refine done_ (by kernel_rfl) ?_
   obtain ⟨mk3, w6, s6, hrun6, hb6, hu6⟩ := HB.1.gave (by omega) hn HC.1.1 HC.1.2.1 HC.1.2.2.1 HC.1.2.2.2 HR.1.1 HR.1.2.1 HR.1.2.2 HS.1
   rw [HY.1.2] at hrun6
   have HB6 := ak hb6
   have HU6 := ak (HU.1.then hu6 (fun y e => by omega))
   clear hb6 hu6 HB HU
   go_wp2_with fail
   go_ret
   exact ⟨rfl, HB6.1, HU6.1⟩
def giveB (n : Nat) (x : Bud) (y : Nat) : Bud := ⟨x.c, canonL n (freeT n (outF x.tk y)), outF x.tk y⟩
theorem BudI.give {n y o : Nat} {x : Bud} (h : BudI n x) (hy : x.tk (y : Int) = some (o : Int)) : BudI n (giveB n x y) := ⟨h.p2, h.c, (freeT_out h.tk hy).1, rfl⟩
theorem heap_give (κ : Kol) (i b each : Nat) (mn lo hi : Int) (bs : List Bud) (j o y : Nat) (x : Bud) (hx : bs[j]? = some x) (hl : bs.length ≤ 8) (hI : BudI each x) (hy : x.tk (y : Int) = some (o : Int)) (w : World) (h : HeapK κ i w b each mn lo hi bs) :
 Calls Tryz.prog 103 #[.pointer (some ⟨b, 0, none⟩), .int .i64 ((j * each + y : Nat) : Int), .int .i64 o] w fun e w' => e = .returned (.int .i64 0) ∧ HeapK κ i w' b each mn lo hi (bs.set j (giveB each x y)) ∧ Upd (fun z => i + 2 + 13 * j < z ∧ z < i + 2 + 13 * j + 13) κ w κ w' := by
 obtain ⟨q0, o', e1, e2, ho, hyn⟩ := hI.tk.dom _ _ hy
 obtain rfl : o = o' := by omega
 obtain rfl : y = q0 * 2 ^ o := by omega
 have hj := (List.getElem?_eq_some_iff.1 hx).1
 have he := (p2_le each hI.p2)
 obtain ⟨v, ps, h1, h2, h3, h4⟩ := h
 obtain ⟨p, hp, hb⟩ := h4 j x hx
 rw [hI.fr] at hb
 have HB := ak hb
 have HX := ak hx
 have HGV := ak (fun (W : World) hW => give_bud κ (i + 2 + 13 * j) p each x.c o q0 x.tk he.2 hI.tk hy ho hyn W hW)
 obtain ⟨A, c, rfl, hle, hC⟩ := h2.reads
 obtain ⟨ad, rfl, k5⟩ := pk_at hC j (by omega) p hp
 have H1 := ak (And.intro h1 (And.intro h2 (And.intro h3 (And.intro h4 hp))))
 have k4 := h1.blk.at 4 _ rfl
 have k0 := h1.blk.at 0 (.int .i64 each) rfl
 obtain ⟨m, hm⟩ : ∃ m, ps.length = m := ⟨_, rfl⟩
 rw [hm] at k4
 obtain ⟨y, hye⟩ : ∃ y, q0 * 2 ^ o = y := ⟨_, rfl⟩
 rw [hye] at HGV hyn ⊢
 have hpo := pos2 o
 have hm8 : m ≤ 8 ∧ j < m := by omega
 have hje : j * each + each ≤ m * each := by rw [← Nat.succ_mul]; exact Nat.mul_le_mul_right _ hm8.2
 have hmE : m * each ≤ 8 * 1024 := Nat.mul_le_mul hm8.1 he.2
 have hdiv : (j * each + y) / each = j := by rw [Nat.mul_comm, Nat.mul_add_div (by omega), Nat.div_eq_of_lt (by omega)]; rfl
 have hmod : (j * each + y) % each = y := by rw [Nat.mul_comm, Nat.mul_add_mod, Nat.mod_eq_of_lt (by omega)]
 obtain ⟨N, hN⟩ : ∃ N, m * each = N := ⟨_, rfl⟩
 have b1 : (0 : Int) ≤ (N : Int) ∧ (N : Int) ≤ 1000000 := by omega
 have b2 : (0 : Int) ≤ (j : Int) ∧ (j : Int) ≤ 1000000 := by omega
 obtain ⟨fr, hfr⟩ : ∃ fr, j * each + y = fr := ⟨_, rfl⟩
 rw [hfr] at hdiv hmod ⊢
 have d0 : decide ((fr : Int) < 0) = false := decide_eq_false (by omega)
 have d1 : decide (N ≤ fr) = false := decide_eq_false (by omega)
 have er : (fr : Int).tmod (each : Int) = (y : Int) := by rw [Int.tmod_eq_emod_of_nonneg (by omega), ← Int.natCast_emod, hmod]
 have e0 : ¬ each = 0 := by omega
 have f0 : (0 : Int) ≤ (fr : Int) := by omega
 have j0 : (0 : Int) ≤ (j : Int) := by omega
 have jm : (j : Int) < (m : Int) := by omega
 have em : wrap64 ((each : Int) * (m : Int)) = (N : Int) := by rw [← Int.natCast_mul, Nat.mul_comm, hN]; exact w64 _ b1
 have eq : wrap64 ((fr : Int) / (each : Int)) = (j : Int) := by rw [← Int.natCast_ediv, hdiv]; exact w64 _ b2
 clear b1 b2 hb hx h1 h2 h3 h4 hp hC hle hm hm8 hje hmE hdiv hmod hN hfr hyn hpo he hj hI hy hye e1 e2
 have HE := ak (And.intro eq (And.intro er (And.intro e0 (And.intro f0 (And.intro j0 jm)))))
 have HK5 := ak k5
 clear eq er e0 f0 j0 jm k5
 go_enter Tryz.func103, Tryz.ntmps103
 go_upto_region 1 with fail
 refine st_ 20 (fun w' => w'.cell? ⟨b, 0, none⟩ = some (.int .i64 each) ∧ w'.cell? ⟨b, 4, none⟩ = some (.slice (some ad) m c)) [] ⟨k0, k4⟩ (fun hHeld => ?_)
 have hd_ := below_drew (RowKit.Below.refl w.heap.size w)
 have n0_ := ak (HB.1.upd (I := fun _ => False) (Upd.of_below κ hd_) (fun _ _ h => h))
 clear HB hd_
 have HB := n0_
 clear n0_
 have HD := ak (below_drew (RowKit.Below.refl w.heap.size w))
 have t0 : w.drew.cell? ⟨b, 0, none⟩ = some (.int .i64 each) := k0
 have t4 : w.drew.cell? ⟨b, 4, none⟩ = some (.slice (some ad) m c) := k4
 have t5 : w.drew.cell? (ad.add j) = some (.pointer (some ⟨p, 0, none⟩)) := HK5.1
 have HK5 := ak t5
 clear k0 k4 t5
 have k0 := t0
 have k4 := t4
 clear t0 t4
 generalize w.drew = wd at *
 refine pu_ 0 7 1 ?_
 refine pu_ 1 8 3 ?_
 refine pu_ 2 9 7 ?_
 refine pu_ 3 10 15 ?_
 refine pu_ 4 11 31 ?_
 refine pu_ 5 12 63 ?_
 refine pu_ 6 13 127 ?_
 refine pu_ 7 14 255 ?_
 refine pu_ 8 15 511 ?_
 refine pu_ 9 16 1023 ?_
 refine pu_ 10 17 2047 ?_
 refine pu_ 12 19 6143 ?_
 refine pu_ 13 20 14335 ?_
 refine pu_ 14 21 30719 ?_
 refine ta_ 11 18 32767 hHeld ?_
 refine ta_ 15 22 65535 hHeld ?_
 refine pu_ 16 23 131071 ?_
 refine pu_ 17 24 262143 ?_
 refine pu_ 18 25 524287 ?_
 refine pu_ 19 26 1048575 ?_
 refine done_ (by kernel_rfl) ?_
 go_upto_region 3 with fail
 obtain ⟨eq, er, e0, f0, j0, jm⟩ := HE.1
 clear d0 d1 em
 refine st_ 21 (fun w' => w'.cell? ⟨b, 0, none⟩ = some (.int .i64 each) ∧ w'.cell? ⟨b, 4, none⟩ = some (.slice (some ad) m c) ∧ w'.cell? (ad.add j) = some (.pointer (some ⟨p, 0, none⟩))) [19] ⟨k0, k4, HK5.1⟩ (fun hHeld => ?_)
 have hd_ := below_drew (RowKit.Below.refl wd.heap.size wd)
 have n0_ := ak (HB.1.upd (I := fun _ => False) (Upd.of_below κ hd_) (fun _ _ h => h))
 have n1_ := ak (below_then HD.1 HD.1.size hd_)
 clear HB HD hd_
 have HB := n0_
 have HD := n1_
 clear n0_ n1_
 clear k0 k4
 generalize wd.drew = we at *
 refine pu_ 0 27 1 ?_
 refine pu_ 1 28 3 ?_
 refine pu_ 2 29 7 ?_
 refine pu_ 4 31 23 ?_
 refine pu_ 5 32 55 ?_
 refine pu_ 6 33 119 ?_
 refine pu_ 7 34 247 ?_
 refine pu_ 12 39 4343 ?_
 refine pu_ 13 40 12535 ?_
 refine pu_ 14 41 28919 ?_
 refine pu_ 15 42 61687 ?_
 refine pu_ 18 45 323831 ?_
 refine ta_ 3 30 323839 hHeld ?_
 refine ta_ 8 35 324095 hHeld ?_
 refine pu_ 9 36 324607 ?_
 refine pu_ 10 37 325631 ?_
 refine ta_ 11 38 327679 hHeld ?_
 refine ta_ 16 43 393215 hHeld ?_
 refine pu_ 17 44 524287 ?_
 refine last_ (i := 19) (N := some 46) (bz 21 1048575) rfl rfl (by kernel_rfl) (by decide) (fun K hK => ?_)
 refine goes_ Tryz.func159 (by kernel_rfl) rfl #[.pointer (some ⟨p, 0, none⟩), .int .i64 (y : Int), .int .i64 o] (by rfl) rfl rfl (by simp only [List.map_toArray, List.map_cons, List.map_nil]; rfl) ?_
 with_reducible refine (HGV.1 _ HB.1).mono ?_
 rintro e_ w3 ⟨rfl, q1, q2⟩
 refine ⟨_, rfl, ?_⟩
 have HQ := ak (And.intro q1 q2)
 clear q1 q2 hHeld
 refine hK.out _ _ ?_
 clear hK K
 refine no_ 46 ?_
 refine pu_ 20 6 2097151 ?_
 refine done_ (by kernel_rfl) ?_
 clear eq er
 go_wp2_with fail
 go_ret
 obtain ⟨g1, g2, g3, g4, g5⟩ := H1.1
 have hU := (Upd.of_below κ HD.1).then HQ.1.2 (fun c hc => hc)
 exact ⟨rfl, HeapK.put (y := giveB each x y) g1 g2 g3 g4 HX.1 g5 HQ.1.1 hU, hU⟩
end Go.Proofs.YtenkdmloolbdaaaGreatDoor.T
end
