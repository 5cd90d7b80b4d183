/- Plain laws: what ref.Write tells, and that what is written is read back. No program in sight. -/
import Derived.Test.YtahagjdnjggdaaaO
import Derived.Test.YtahagjdnjggdaaaT3
import Derived.Test.YtahagjdnjggdaaaF
namespace Go.Proofs.Ytahagjdnjggdaaa.T
open Go.RowKit Go.Proofs.YtahagjdnjggdaaaW.PrintWords Go.Proofs.YtahagjdnjggdaaaW.PrintLast Go.Proofs.YtahagjdnjggdaaaW.PrintMore
set_option linter.unusedVariables false
set_option linter.unusedSimpArgs false
theorem in_value (a b : Int) : messuageref27_in.f a b = some (inB a b) := by
  unfold messuageref27_in.f inB
  by_cases h : a ≥ 0
  · rw [if_pos h, decide_eq_true h]; rfl
  · rw [if_neg h, decide_eq_false h]; rfl
theorem rd45 (l : List S45) (i : Nat) (h : i < l.length) : rd_T45 l (i : Int) = l[i] := by
  simp [rd_T45, List.getElem?_eq_getElem h]
/-- One step of ref.Write. -/
def refStep (k : Nat) (x0 : List S45) (acc : List Int) (i : Int) (x : S45) : Option (List Int × Bool) := messuageref27_Write.j1 k x0 acc i (!rightB (to51 x)) x.f0 x.f1 x.f2 x.f3 x.f4 x.f5 x.f6.f0 x.f6.f1 x.f6.f2 x.f7
theorem ref_one (k : Nat) (l : List S45) (acc : List Int) (i : Nat) (h : i < l.length) : messuageref27_Write.l0 (k + 1) l acc (i : Int) = refStep k l acc (i : Int) l[i] := by
  rw [messuageref27_Write.l0]
  rw [if_pos (by omega), if_pos (by omega), rd45 l i h]
  simp only [in_value, Option.bind_some]
  unfold refStep
  generalize l[i] = x
  have e2 : ((x.f5.length : Int) > 255) = ¬ (x.f5.length ≤ 255) := by apply propext; omega
  have e3 : inB x.f0 12 = (decide (0 ≤ x.f0) && decide (x.f0 ≤ 12)) := rfl
  have hr : rightB (to51 x) = (inB x.f2 65535 && inB x.f3 65535 && inB x.f4 65535 && inB x.f1 255 && inB x.f6.f2 255 && decide (x.f5.length ≤ 255) && decide (1 ≤ x.f0) && decide (x.f0 ≤ 12) && inB x.f6.f0 3) := rfl
  rw [hr]
  simp only [e2, e3]
  generalize inB x.f2 65535 = b1
  generalize inB x.f3 65535 = b2
  generalize inB x.f4 65535 = b3
  generalize inB x.f1 255 = b4
  generalize inB x.f6.f2 255 = b5
  generalize inB x.f6.f0 3 = b6
  by_cases p2 : x.f0 < 1
  · rw [if_pos p2, decide_eq_false (show ¬ 1 ≤ x.f0 by omega)]
    simp only [Bool.and_false, Bool.false_and, Bool.not_false]
  · rw [if_neg p2, decide_eq_true (show 1 ≤ x.f0 by omega), decide_eq_true (show 0 ≤ x.f0 by omega)]
    by_cases p1 : x.f5.length ≤ 255 <;> by_cases p3 : x.f0 ≤ 12 <;> cases b1 <;> cases b2 <;> cases b3 <;> cases b4 <;> cases b5 <;> cases b6 <;> simp [p1, p3]
theorem ref_bytes (k : Nat) (l : List S45) (acc : List Int) (i : Nat) (x : S45) (hx : rightB (to51 x) = true) (ha : acc.length < 100000000000000) : refStep (k + 1) l acc (i : Int) x = messuageref27_Write.l0 k l (acc ++ enc1 (to51 x)) (wrap64 ((i : Int) + 1)) := by
  have h5 : x.f5.length ≤ 255 := rightB_len hx
  unfold refStep
  rw [hx]
  simp only [messuageref27_Write.j1, Bool.not_true, Bool.false_eq_true, if_false, Option.bind_some]
  have hx2 : (inB x.f2 65535 && inB x.f3 65535 && inB x.f4 65535 && inB x.f1 255 && inB x.f6.f2 255 && decide (x.f5.length ≤ 255) && decide (1 ≤ x.f0) && decide (x.f0 ≤ 12) && inB x.f6.f0 3) = true := hx
  unfold inB at hx2
  simp only [Bool.and_eq_true, decide_eq_true_eq] at hx2
  have t2 : wrap64 (Int.tdiv x.f2 256) = x.f2 / 256 := by rw [Int.tdiv_eq_ediv_of_nonneg (by omega)]; unfold wrap64; omega
  have t3 : wrap64 (Int.tdiv x.f3 256) = x.f3 / 256 := by rw [Int.tdiv_eq_ediv_of_nonneg (by omega)]; unfold wrap64; omega
  have t4 : wrap64 (Int.tdiv x.f4 256) = x.f4 / 256 := by rw [Int.tdiv_eq_ediv_of_nonneg (by omega)]; unfold wrap64; omega
  have m2 : Int.tmod x.f2 256 % 256 = x.f2 % 256 := by rw [Int.tmod_eq_emod_of_nonneg (by omega)]; omega
  have m3 : Int.tmod x.f3 256 % 256 = x.f3 % 256 := by rw [Int.tmod_eq_emod_of_nonneg (by omega)]; omega
  have m4 : Int.tmod x.f4 256 % 256 = x.f4 % 256 := by rw [Int.tmod_eq_emod_of_nonneg (by omega)]; omega
  have p16 : wrap64 (x.f6.f0 + 16) = Go.bits .or .i64 x.f6.f0 16 := by rw [or16 _ (by omega) (by omega)]; unfold wrap64; omega
  have he : enc1 (to51 x) = head1 (to51 x) ++ x.f5 := rfl
  have hh : head1 (to51 x) = [x.f0 % 256, x.f1 % 256, (x.f2 / 256) % 256, x.f2 % 256, (x.f3 / 256) % 256, x.f3 % 256, (x.f4 / 256) % 256, x.f4 % 256, (if x.f7 = true then Go.bits .or .i64 x.f6.f0 16 else x.f6.f0) % 256, x.f6.f1, x.f6.f2 % 256, (x.f5.length : Int) % 256] := rfl
  rw [he, hh, t2, t3, t4, m2, m3, m4, p16]
  by_cases h7 : x.f7 = true
  · rw [if_pos h7, if_pos h7, if_pos (by simp only [List.length_cons, List.length_nil]; omega), if_pos (by simp only [List.length_cons, List.length_nil, List.length_append]; omega), List.append_assoc]
  · rw [if_neg h7, if_neg h7, if_pos (by simp only [List.length_cons, List.length_nil]; omega), if_pos (by simp only [List.length_cons, List.length_nil, List.length_append]; omega), List.append_assoc]
theorem ref_stop (k : Nat) (l : List S45) (acc : List Int) (i : Nat) (x : S45) (hx : rightB (to51 x) = false) : refStep (k + 1) l acc (i : Int) x = some ([], false) := by
  unfold refStep
  rw [hx]
  simp only [messuageref27_Write.j1, Bool.not_false, if_true]
theorem ref_loop (l : List S45) (hok : ∀ x ∈ l, rightB (to51 x) = true) (hl : l.length < 100000000000) : ∀ (d i k : Nat) (acc : List Int), i + d = l.length → 2 * d + 1 ≤ k → acc.length + d * 300 < 100000000000000 → messuageref27_Write.l0 k l acc (i : Int) = some (acc ++ (l.drop i).flatMap (fun x => enc1 (to51 x)), true)
  | 0, i, k, acc, h, hk, ha => by
    obtain ⟨q, rfl⟩ : ∃ q, k = q + 1 := ⟨k - 1, by omega⟩
    rw [messuageref27_Write.l0, if_neg (by omega), List.drop_eq_nil_of_le (by omega)]
    simp
  | d + 1, i, k, acc, h, hk, ha => by
    obtain ⟨q, rfl⟩ : ∃ q, k = q + 1 := ⟨k - 1, by omega⟩
    obtain ⟨r, rfl⟩ : ∃ r, q = r + 1 := ⟨q - 1, by omega⟩
    have hi : i < l.length := by omega
    have hr := hok l[i] (List.getElem_mem hi)
    rw [ref_one _ l acc i hi, ref_bytes r l acc i l[i] hr (by omega)]
    rw [show wrap64 ((i : Int) + 1) = ((i + 1 : Nat) : Int) from by unfold wrap64; omega]
    rw [ref_loop l hok hl d (i + 1) r _ (by omega) (by omega) (by rw [List.length_append, enc1_len]; have := rightB_len hr; omega)]
    rw [List.drop_eq_getElem_cons hi, List.flatMap_cons, List.append_assoc]
theorem ref_loop_bad (l : List S45) (hl : l.length < 100000000000) : ∀ (d i k : Nat) (acc : List Int), i + d = l.length → 2 * d + 1 ≤ k → acc.length + d * 300 < 100000000000000 → (∃ x ∈ l.drop i, rightB (to51 x) = false) → messuageref27_Write.l0 k l acc (i : Int) = some ([], false)
  | 0, i, k, acc, h, hk, ha, ⟨x, hx, _⟩ => by
    rw [List.drop_eq_nil_of_le (by omega)] at hx
    simp at hx
  | d + 1, i, k, acc, h, hk, ha, ⟨x, hx, hb⟩ => by
    obtain ⟨q, rfl⟩ : ∃ q, k = q + 1 := ⟨k - 1, by omega⟩
    obtain ⟨r, rfl⟩ : ∃ r, q = r + 1 := ⟨q - 1, by omega⟩
    have hi : i < l.length := by omega
    rw [ref_one _ l acc i hi]
    by_cases hr : rightB (to51 l[i]) = true
    · rw [ref_bytes r l acc i l[i] hr (by omega)]
      rw [show wrap64 ((i : Int) + 1) = ((i + 1 : Nat) : Int) from by unfold wrap64; omega]
      refine ref_loop_bad l hl d (i + 1) r _ (by omega) (by omega) (by rw [List.length_append, enc1_len]; have := rightB_len hr; omega) ?_
      rw [List.drop_eq_getElem_cons hi] at hx
      rcases List.mem_cons.1 hx with rfl | hx
      · rw [hr] at hb; cases hb
      · exact ⟨x, hx, hb⟩
    · exact ref_stop r l acc i l[i] (by simpa using hr)
theorem refwrite_ok (l : List S45) (hok : ∀ x ∈ l, rightB (to51 x) = true) (hl : l.length < 100000000000) (k : Nat) (hk : 2 * l.length + 1 ≤ k) : messuageref27_Write.f k l = some ((l.map to51).flatMap enc1, true) := by
  unfold messuageref27_Write.f
  have := ref_loop l hok hl l.length 0 k [] (by omega) hk (by simp; omega)
  rw [List.flatMap_map]
  simpa using this
theorem refwrite_bad (l : List S45) (hl : l.length < 100000000000) (hb : ∃ x ∈ l, rightB (to51 x) = false) (k : Nat) (hk : 2 * l.length + 1 ≤ k) : messuageref27_Write.f k l = some ([], false) := by
  unfold messuageref27_Write.f
  exact ref_loop_bad l hl l.length 0 k [] (by omega) hk (by simp; omega) (by simpa using hb)
end Go.Proofs.Ytahagjdnjggdaaa.T
