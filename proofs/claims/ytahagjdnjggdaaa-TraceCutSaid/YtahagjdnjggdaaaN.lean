/- Plain laws of the bytes of steps: no program in sight. -/
import Derived.Test.YtahagjdnjggdaaaE
import Derived.Test.YtahagjdnjggdaaaG
namespace Go.Proofs.Ytahagjdnjggdaaa.T
open Go.RowKit Go.Proofs.YtahagjdnjggdaaaW.PrintWords Go.Proofs.YtahagjdnjggdaaaW.PrintLast Go.Proofs.YtahagjdnjggdaaaW.PrintMore
set_option linter.unusedVariables false
set_option linter.unusedSimpArgs false
def mode1 (x : S51) : Int := if x.f7 = true then Go.bits .or .i64 x.f6.f0 16 else x.f6.f0
def head1 (x : S51) : List Int := [x.f0 % 256, x.f1 % 256, (x.f2 / 256) % 256, x.f2 % 256, (x.f3 / 256) % 256, x.f3 % 256, (x.f4 / 256) % 256, x.f4 % 256, (mode1 x) % 256, x.f6.f1, x.f6.f2 % 256, (x.f5.length : Int) % 256]
def enc1 (x : S51) : List Int := head1 x ++ x.f5
def inB (a b : Int) : Bool := decide (0 ≤ a) && decide (a ≤ b)
def rightB (x : S51) : Bool := inB x.f2 65535 && inB x.f3 65535 && inB x.f4 65535 && inB x.f1 255 && inB x.f6.f2 255 && decide (x.f5.length ≤ 255) && decide (1 ≤ x.f0) && decide (x.f0 ≤ 12) && inB x.f6.f0 3
theorem within_value (a b : Int) : trace_within.f a b = some (inB a b) := by
  unfold trace_within.f inB
  by_cases h : a ≥ 0
  · rw [if_pos h, decide_eq_true h]; rfl
  · rw [if_neg h, decide_eq_false h]; rfl
theorem right_any (x : S51) : trace_right.f x.f0 x.f1 x.f2 x.f3 x.f4 x.f5 x.f6.f0 x.f6.f1 x.f6.f2 x.f7 = some (rightB x) := by
  unfold trace_right.f rightB
  have e1 : ((x.f5.length : Int) ≤ 255) = (x.f5.length ≤ 255) := by apply propext; omega
  have e2 : (x.f0 ≥ 1) = (1 ≤ x.f0) := rfl
  simp only [within_value, Option.bind_some, e1, e2]
  generalize inB x.f2 65535 = b1
  generalize inB x.f3 65535 = b2
  generalize inB x.f4 65535 = b3
  generalize inB x.f1 255 = b4
  generalize inB x.f6.f2 255 = b5
  generalize inB x.f6.f0 3 = b6
  by_cases p1 : x.f5.length ≤ 255 <;> by_cases p2 : 1 ≤ x.f0 <;> by_cases p3 : x.f0 ≤ 12 <;> simp only [p1, p2, p3, if_true, if_false, decide_true, decide_false] <;> cases b1 <;> cases b2 <;> cases b3 <;> cases b4 <;> cases b5 <;> cases b6 <;> rfl
theorem put_value (k : Nat) (l0 : List Int) (x : S51) (hl : l0.length < 100000000000000) (hx : x.f5.length ≤ 255) : trace_put.f (k + 6) l0 x.f0 x.f1 x.f2 x.f3 x.f4 x.f5 x.f6.f0 x.f6.f1 x.f6.f2 x.f7 = some (l0 ++ enc1 x) := by
  have hm : ∀ md, trace_put.j0 (k + 6) l0 md x.f0 x.f1 x.f2 x.f3 x.f4 x.f5 x.f6.f0 x.f6.f1 x.f6.f2 x.f7 = some (l0 ++ ([x.f0 % 256, x.f1 % 256, (x.f2 / 256) % 256, x.f2 % 256, (x.f3 / 256) % 256, x.f3 % 256, (x.f4 / 256) % 256, x.f4 % 256, md % 256, x.f6.f1, x.f6.f2 % 256, (x.f5.length : Int) % 256] ++ x.f5)) := by
    intro md
    simp only [trace_put.j0, trace_put.l0, Option.bind_some, rd, List.length_cons, List.length_nil, List.length_append]
    simp [show wrap64 1 = 1 from by (unfold wrap64; omega), show wrap64 2 = 2 from by (unfold wrap64; omega), show wrap64 3 = 3 from by (unfold wrap64; omega)]
    omega
  unfold trace_put.f
  by_cases h : x.f7 = true
  · rw [if_pos h, hm]; simp only [enc1, head1, mode1, if_pos h]
  · rw [if_neg h, hm]; simp only [enc1, head1, mode1, if_neg h]

theorem put_value' (q : Nat) (hq : 6 ≤ q) (l0 : List Int) (x : S51) (hl : l0.length < 100000000000000) (hx : x.f5.length ≤ 255) : trace_put.f q l0 x.f0 x.f1 x.f2 x.f3 x.f4 x.f5 x.f6.f0 x.f6.f1 x.f6.f2 x.f7 = some (l0 ++ enc1 x) := by
  obtain ⟨k, rfl⟩ : ∃ k, q = k + 6 := ⟨q - 6, by omega⟩
  exact put_value k l0 x hl hx
theorem rightB_len {x : S51} (h : rightB x = true) : x.f5.length ≤ 255 := by
  unfold rightB at h; simp at h; omega
theorem rd51 (l : List S51) (i : Nat) (h : i < l.length) : rd_T51 l (i : Int) = l[i] := by
  simp [rd_T51, List.getElem?_eq_getElem h]
theorem enc1_len (x : S51) : (enc1 x).length = 12 + x.f5.length := by simp [enc1, head1]; omega
theorem write_loop (l : List S51) (hok : ∀ x ∈ l, rightB x = true) (hl : l.length < 100000000000) : ∀ (d i k : Nat) (acc : List Int), i + d = l.length → d + 7 ≤ k → acc.length + d * 300 < 100000000000000 → trace_Write.l0 k acc l (l.length : Int) (i : Int) = some (acc ++ (l.drop i).flatMap enc1, 0)
  | 0, i, k, acc, h, hk, ha => by
    obtain ⟨k', rfl⟩ : ∃ k', k = k' + 1 := ⟨k - 1, by omega⟩
    rw [trace_Write.l0]
    rw [if_neg (by omega), List.drop_eq_nil_of_le (by omega)]
    simp
  | d + 1, i, k, acc, h, hk, ha => by
    obtain ⟨q, rfl⟩ : ∃ q, k = q + 1 := ⟨k - 1, by omega⟩
    have hq : 6 ≤ q := by omega
    have hi : i < l.length := by omega
    have hr := hok l[i] (List.getElem_mem hi)
    rw [trace_Write.l0]
    rw [if_pos (by omega), if_pos (by omega), if_pos (by omega), rd51 l i hi, right_any, hr]
    simp only [Option.bind_some, if_true]
    rw [put_value' q hq acc l[i] (by omega) (rightB_len hr)]
    simp only [Option.bind_some]
    rw [show wrap64 ((i : Int) + 1) = ((i + 1 : Nat) : Int) from by unfold wrap64; omega]
    rw [write_loop l hok hl d (i + 1) q _ (by omega) (by omega) (by rw [List.length_append, enc1_len]; have := rightB_len hr; omega)]
    rw [List.drop_eq_getElem_cons hi, List.flatMap_cons, List.append_assoc]
theorem write_ok (l : List S51) (hok : ∀ x ∈ l, rightB x = true) (hl : l.length < 100000000000) (k : Nat) (hk : l.length + 7 ≤ k) : trace_Write.f k l = some (l.flatMap enc1, 0) := by
  unfold trace_Write.f
  have := write_loop l hok hl l.length 0 k [] (by omega) hk (by simp; omega)
  simpa using this
theorem write_loop_bad (l : List S51) (hl : l.length < 100000000000) : ∀ (d i k : Nat) (acc : List Int), i + d = l.length → d + 7 ≤ k → acc.length + d * 300 < 100000000000000 → (∃ x ∈ l.drop i, rightB x = false) → trace_Write.l0 k acc l (l.length : Int) (i : Int) = some ([], 2)
  | 0, i, k, acc, h, hk, ha, ⟨x, hx, _⟩ => by
    rw [List.drop_eq_nil_of_le (by omega)] at hx
    simp at hx
  | d + 1, i, k, acc, h, hk, ha, ⟨x, hx, hb⟩ => by
    obtain ⟨q, rfl⟩ : ∃ q, k = q + 1 := ⟨k - 1, by omega⟩
    have hq : 6 ≤ q := by omega
    have hi : i < l.length := by omega
    rw [trace_Write.l0]
    rw [if_pos (by omega), if_pos (by omega), if_pos (by omega), rd51 l i hi, right_any]
    simp only [Option.bind_some]
    by_cases hr : rightB l[i] = true
    · rw [if_pos hr, put_value' q hq acc l[i] (by omega) (rightB_len hr)]
      simp only [Option.bind_some]
      rw [show wrap64 ((i : Int) + 1) = ((i + 1 : Nat) : Int) from by unfold wrap64; omega]
      refine write_loop_bad l hl d (i + 1) q _ (by omega) (by omega) (by rw [List.length_append, enc1_len]; have := rightB_len hr; omega) ?_
      rw [List.drop_eq_getElem_cons hi] at hx
      rcases List.mem_cons.1 hx with rfl | hx
      · rw [hr] at hb; cases hb
      · exact ⟨x, hx, hb⟩
    · rw [if_neg hr]
theorem write_bad (l : List S51) (hl : l.length < 100000000000) (hb : ∃ x ∈ l, rightB x = false) (k : Nat) (hk : l.length + 7 ≤ k) : trace_Write.f k l = some ([], 2) := by
  unfold trace_Write.f
  exact write_loop_bad l hl l.length 0 k [] (by omega) hk (by simp; omega) (by simpa using hb)
theorem from_loop (l : List S51) (hl : l.length < 100000000000) : ∀ (d i k : Nat) (acc : List S45), i + d = l.length → d + 1 ≤ k → acc.length + d < 1466015503701 → messuagelaw27_from.l0 k l acc (i : Int) = some (acc ++ (l.drop i).map from51)
  | 0, i, k, acc, h, hk, ha => by
    obtain ⟨k', rfl⟩ : ∃ k', k = k' + 1 := ⟨k - 1, by omega⟩
    rw [messuagelaw27_from.l0]
    rw [if_neg (by omega), List.drop_eq_nil_of_le (by omega)]
    simp
  | d + 1, i, k, acc, h, hk, ha => by
    obtain ⟨k', rfl⟩ : ∃ k', k = k' + 1 := ⟨k - 1, by omega⟩
    have hi : i < l.length := by omega
    rw [messuagelaw27_from.l0]
    rw [if_pos (by omega), if_pos (by omega), if_pos (by omega), rd51 l i hi]
    rw [show wrap64 ((i : Int) + 1) = ((i + 1 : Nat) : Int) from by unfold wrap64; omega]
    rw [from_loop l hl d (i + 1) k' _ (by omega) (by omega) (by rw [List.length_append, List.length_singleton]; omega)]
    rw [List.drop_eq_getElem_cons hi, List.map_cons, List.append_assoc]
    rfl
theorem from_value (l : List S51) (hl : l.length < 100000000000) (k : Nat) (hk : l.length + 1 ≤ k) : messuagelaw27_from.f k l = some (l.map from51) := by
  unfold messuagelaw27_from.f
  have := from_loop l hl l.length 0 k [] (by omega) hk (by simp; omega)
  simpa using this
end Go.Proofs.Ytahagjdnjggdaaa.T
