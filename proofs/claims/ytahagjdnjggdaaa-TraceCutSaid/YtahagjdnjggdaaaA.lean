/- Plain laws: what is written is read back, ahead of whatever follows. No program in sight. -/
import Derived.Test.YtahagjdnjggdaaaV
namespace Go.Proofs.Ytahagjdnjggdaaa.T
open Go.RowKit Go.Proofs.YtahagjdnjggdaaaW.PrintWords Go.Proofs.YtahagjdnjggdaaaW.PrintLast Go.Proofs.YtahagjdnjggdaaaW.PrintMore
set_option linter.unusedVariables false
set_option linter.unusedSimpArgs false
def byteStep (x : S51) : Prop := 0 ≤ x.f6.f1 ∧ x.f6.f1 ≤ 255 ∧ byteOk x.f5
theorem enc_list (x : S51) (t : List Int) : enc1 x ++ t = x.f0 % 256 :: x.f1 % 256 :: (x.f2 / 256) % 256 :: x.f2 % 256 :: (x.f3 / 256) % 256 :: x.f3 % 256 :: (x.f4 / 256) % 256 :: x.f4 % 256 :: (mode1 x) % 256 :: x.f6.f1 :: x.f6.f2 % 256 :: (x.f5.length : Int) % 256 :: (x.f5 ++ t) := by
  simp [enc1, head1]
theorem mode_told (x : S51) (h0 : 0 ≤ x.f6.f0) (h3 : x.f6.f0 ≤ 3) : 0 ≤ mode1 x ∧ mode1 x < 32 ∧ mode1 x % 16 = x.f6.f0 ∧ decide (16 ≤ mode1 x) = x.f7 := by
  unfold mode1
  by_cases h : x.f7 = true
  · rw [if_pos h, or16 _ h0 h3, h]
    refine ⟨by omega, by omega, by omega, decide_eq_true (by omega)⟩
  · rw [if_neg h]
    have : x.f7 = false := by simpa using h
    rw [this]
    exact ⟨h0, by omega, by omega, decide_eq_false (by omega)⟩
theorem dec_one (x : S51) (t : List Int) (hr : rightB x = true) (hb : byteStep x) : fits1 (enc1 x ++ t) ∧ good1 (enc1 x ++ t) = true ∧ step1 (enc1 x ++ t) = x ∧ (enc1 x ++ t).drop (sizeOf1 (enc1 x ++ t)) = t := by
  rw [enc_list]
  unfold rightB inB at hr
  simp only [Bool.and_eq_true, decide_eq_true_eq] at hr
  obtain ⟨⟨⟨⟨⟨⟨⟨⟨r2, r3⟩, r4⟩, r1⟩, r62⟩, r5⟩, r0⟩, r0'⟩, r60⟩ := hr
  obtain ⟨m0, m1, m2, m3⟩ := mode_told x r60.1 r60.2
  have e8 : mode1 x % 256 = mode1 x := by omega
  have el : (x.f5.length : Int) % 256 = x.f5.length := by omega
  rw [e8, el]
  have hs : sizeOf1 (x.f0 % 256 :: x.f1 % 256 :: (x.f2 / 256) % 256 :: x.f2 % 256 :: (x.f3 / 256) % 256 :: x.f3 % 256 :: (x.f4 / 256) % 256 :: x.f4 % 256 :: mode1 x :: x.f6.f1 :: x.f6.f2 % 256 :: (x.f5.length : Int) :: (x.f5 ++ t)) = x.f5.length + 12 := by
    unfold sizeOf1; simp only [List.getD_cons_zero, List.getD_cons_succ]; omega
  have ht := told_bit (mode1 x) m0 m1
  refine ⟨?_, ?_, ?_, ?_⟩
  · unfold fits1
    simp only [List.getD_cons_zero, List.getD_cons_succ, List.length_cons, List.length_append]
    omega
  · unfold good1
    simp only [List.getD_cons_zero, List.getD_cons_succ, Bool.and_eq_true, decide_eq_true_eq]
    omega
  · unfold step1
    rw [hs]
    simp only [List.getD_cons_zero, List.getD_cons_succ, ht, m3, m2, List.take_succ_cons, List.drop_succ_cons, List.drop_zero, List.take_left]
    have a0 : x.f0 % 256 = x.f0 := by omega
    have a1 : x.f1 % 256 = x.f1 := by omega
    have a2 : x.f2 / 256 % 256 * 256 + x.f2 % 256 = x.f2 := by omega
    have a3 : x.f3 / 256 % 256 * 256 + x.f3 % 256 = x.f3 := by omega
    have a4 : x.f4 / 256 % 256 * 256 + x.f4 % 256 = x.f4 := by omega
    have a5 : x.f6.f2 % 256 = x.f6.f2 := by omega
    rw [a0, a1, a2, a3, a4, a5]
  · rw [hs]
    simp only [List.drop_succ_cons, List.drop_left]
theorem decodeF_fuel : ∀ (n : Nat) (l : List Int), byteOk l → l.length ≤ n → decodeF (n + 1) l = decodeF n l
  | 0, l, hb, h => by
    have : l = [] := List.eq_nil_of_length_eq_zero (by omega)
    subst this; rfl
  | n + 1, l, hb, h => by
    have e : ∀ q, decodeF (q + 1) l = if l = [] then some [] else if fits1 l ∧ good1 l = true then (decodeF q (l.drop (sizeOf1 l))).map (step1 l :: ·) else none := fun q => rfl
    rw [e (n + 1), e n]
    by_cases h0 : l = []
    · rw [if_pos h0, if_pos h0]
    · rw [if_neg h0, if_neg h0]
      have hp : 0 < l.length := by
        rcases l with _ | ⟨a, t⟩
        · exact absurd rfl h0
        · simp
      have := sizeOf1_ge hb
      rw [decodeF_fuel n (l.drop (sizeOf1 l)) (byteOk_drop hb _) (by rw [List.length_drop]; omega)]
theorem decodeF_any (n : Nat) (l : List Int) (hb : byteOk l) (h : l.length ≤ n) : decodeF n l = decodeF l.length l := by
  obtain ⟨d, rfl⟩ : ∃ d, n = l.length + d := ⟨n - l.length, by omega⟩
  induction d with
  | zero => rfl
  | succ d ih => rw [← ih (Nat.le_add_right _ _)]; exact decodeF_fuel _ l hb (Nat.le_add_right _ _)
theorem byteOk_enc (x : S51) (h : byteStep x) : byteOk (enc1 x) := by
  intro v hv
  unfold enc1 head1 at hv
  rcases List.mem_append.1 hv with hv | hv
  · simp only [List.mem_cons, List.not_mem_nil, or_false] at hv
    have := h.1; have := h.2.1
    omega
  · exact h.2.2 v hv
theorem byteOk_append {a b : List Int} (ha : byteOk a) (hb : byteOk b) : byteOk (a ++ b) := by
  intro v hv
  rcases List.mem_append.1 hv with h | h
  · exact ha v h
  · exact hb v h
theorem byteOk_flat : ∀ (m : List S51), (∀ x ∈ m, byteStep x) → byteOk (m.flatMap enc1)
  | [], _ => by intro v hv; simp at hv
  | x :: m, h => by
    rw [List.flatMap_cons]
    exact byteOk_append (byteOk_enc x (h x (List.mem_cons_self ..))) (byteOk_flat m (fun y hy => h y (List.mem_cons_of_mem _ hy)))
/-- Steps' bytes ahead of t: the steps, then what t tells. -/
theorem decode_app (t : List Int) (ht : byteOk t) : ∀ (m : List S51), (∀ x ∈ m, rightB x = true) → (∀ x ∈ m, byteStep x) → decodeF (m.flatMap enc1 ++ t).length (m.flatMap enc1 ++ t) = (decodeF t.length t).map (m ++ ·)
  | [], _, _ => by simp
  | x :: m, hr, hb => by
    have hbx := byteOk_append (byteOk_flat (x :: m) hb) ht
    have hbm := byteOk_append (byteOk_flat m (fun y hy => hb y (List.mem_cons_of_mem _ hy))) ht
    obtain ⟨d1, d2, d3, d4⟩ := dec_one x (m.flatMap enc1 ++ t) (hr x (List.mem_cons_self ..)) (hb x (List.mem_cons_self ..))
    have ih := decode_app t ht m (fun y hy => hr y (List.mem_cons_of_mem _ hy)) (fun y hy => hb y (List.mem_cons_of_mem _ hy))
    have hl := enc1_len x
    rw [List.flatMap_cons, List.append_assoc]
    obtain ⟨n, hn⟩ : ∃ n, (enc1 x ++ (m.flatMap enc1 ++ t)).length = n + 1 := ⟨(enc1 x ++ (m.flatMap enc1 ++ t)).length - 1, by rw [List.length_append, hl]; omega⟩
    have hne : enc1 x ++ (m.flatMap enc1 ++ t) ≠ [] := fun e => by rw [e] at hn; simp at hn
    rw [hn, decodeF, if_neg hne, if_pos ⟨d1, d2⟩, d3, d4, decodeF_any n _ hbm (by rw [List.length_append, hl] at hn; omega), ih]
    cases decodeF t.length t <;> simp
theorem decode_enc (m : List S51) (hr : ∀ x ∈ m, rightB x = true) (hb : ∀ x ∈ m, byteStep x) : decodeF (m.flatMap enc1).length (m.flatMap enc1) = some m := by
  have := decode_app [] (by intro v hv; simp at hv) m hr hb
  simpa [decodeF] using this
end Go.Proofs.Ytahagjdnjggdaaa.T
