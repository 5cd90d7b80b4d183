/- Plain laws: what is read has just its bytes, and what is written is read back. No program in sight. -/
import Derived.Test.YtahagjdnjggdaaaN
namespace Go.Proofs.Ytahagjdnjggdaaa.T
open Go.RowKit Go.Proofs.YtahagjdnjggdaaaW.PrintWords Go.Proofs.YtahagjdnjggdaaaW.PrintLast Go.Proofs.YtahagjdnjggdaaaW.PrintMore
set_option linter.unusedVariables false
set_option linter.unusedSimpArgs false
theorem twelve (l : List Int) (h : 12 ≤ l.length) : ∃ a0 a1 a2 a3 a4 a5 a6 a7 a8 a9 a10 a11 tl, l = a0 :: a1 :: a2 :: a3 :: a4 :: a5 :: a6 :: a7 :: a8 :: a9 :: a10 :: a11 :: tl := by
  rcases l with _ | ⟨a0, _ | ⟨a1, _ | ⟨a2, _ | ⟨a3, _ | ⟨a4, _ | ⟨a5, _ | ⟨a6, _ | ⟨a7, _ | ⟨a8, _ | ⟨a9, _ | ⟨a10, _ | ⟨a11, tl⟩⟩⟩⟩⟩⟩⟩⟩⟩⟩⟩⟩
  case cons.cons.cons.cons.cons.cons.cons.cons.cons.cons.cons.cons => exact ⟨a0, a1, a2, a3, a4, a5, a6, a7, a8, a9, a10, a11, tl, rfl⟩
  all_goals (exfalso; simp only [List.length_cons, List.length_nil] at h; omega)
theorem or16 : ∀ x : Int, 0 ≤ x → x ≤ 3 → Go.bits .or .i64 x 16 = x + 16 := by
  intro x h0 h1
  obtain ⟨n, rfl⟩ := Int.eq_ofNat_of_zero_le h0
  have h2 : n < 4 := by omega
  have : ∀ n : Fin 4, Go.bits .or .i64 ((n.val : Nat) : Int) 16 = ((n.val : Nat) : Int) + 16 := by decide
  exact this ⟨n, h2⟩
theorem enc_step (l : List Int) (hb : byteOk l) (hf : fits1 l) (hg : good1 l = true) : enc1 (step1 l) = l.take (sizeOf1 l) ∧ rightB (step1 l) = true := by
  obtain ⟨h12, hn⟩ := hf
  obtain ⟨a0, a1, a2, a3, a4, a5, a6, a7, a8, a9, a10, a11, tl, rfl⟩ := twelve l h12
  have d := fun x hx => hb x hx
  simp only [List.mem_cons, forall_eq_or_imp] at d
  obtain ⟨d0, d1, d2, d3, d4, d5, d6, d7, d8, d9, d10, d11, dt⟩ := d
  unfold good1 at hg
  simp only [List.getD_cons_zero, List.getD_cons_succ] at hg hn
  simp only [Bool.and_eq_true, decide_eq_true_eq] at hg
  obtain ⟨⟨g0, g1, g2⟩, g3⟩ := hg
  have hs : sizeOf1 (a0 :: a1 :: a2 :: a3 :: a4 :: a5 :: a6 :: a7 :: a8 :: a9 :: a10 :: a11 :: tl) = a11.toNat + 12 := by
    unfold sizeOf1; simp only [List.getD_cons_zero, List.getD_cons_succ]; omega
  have hl : (tl.take a11.toNat).length = a11.toNat := by
    rw [List.length_take]; simp only [List.length_cons] at hn; omega
  have ht := told_bit a8 d8.1 g3
  have hst : step1 (a0 :: a1 :: a2 :: a3 :: a4 :: a5 :: a6 :: a7 :: a8 :: a9 :: a10 :: a11 :: tl) = ⟨a0, a1, a2 * 256 + a3, a4 * 256 + a5, a6 * 256 + a7, tl.take a11.toNat, ⟨a8 % 16, a9, a10⟩, decide (16 ≤ a8)⟩ := by
    unfold step1
    rw [hs]
    simp only [List.getD_cons_zero, List.getD_cons_succ, ht, List.take_succ_cons, List.drop_succ_cons, List.drop_zero]
  have hm : mode1 (⟨a0, a1, a2 * 256 + a3, a4 * 256 + a5, a6 * 256 + a7, tl.take a11.toNat, ⟨a8 % 16, a9, a10⟩, decide (16 ≤ a8)⟩ : S51) % 256 = a8 := by
    unfold mode1
    by_cases h : 16 ≤ a8
    · simp only [decide_eq_true h, if_true]; rw [or16 _ (by omega) (by omega)]; omega
    · simp only [decide_eq_false h, Bool.false_eq_true, if_false]; omega
  rw [hst, hs]
  constructor
  · unfold enc1 head1
    rw [hm]
    simp only [hl, List.take_succ_cons, List.cons_append, List.nil_append]
    congr 1; omega
    congr 1; omega
    congr 1; omega
    congr 1; omega
    congr 1; omega
    congr 1; omega
    congr 1; omega
    congr 1; omega
    congr 1
    congr 1
    congr 1; omega
    congr 1; omega
  · unfold rightB inB
    simp only [hl, Bool.and_eq_true, decide_eq_true_eq]
    omega
theorem decode_good : ∀ (n : Nat) (l : List Int) (m : List S51), byteOk l → decodeF n l = some m → m.flatMap enc1 = l ∧ (∀ x ∈ m, rightB x = true) ∧ m.length ≤ l.length
  | 0, l, m, hb, h => by
    simp only [decodeF] at h
    split at h
    · cases h; rename_i h0; subst h0; simp
    · cases h
  | n + 1, l, m, hb, h => by
    simp only [decodeF] at h
    split at h
    · cases h; rename_i h0; subst h0; simp
    · split at h
      · rename_i h0 hfg
        obtain ⟨m1, h1, rfl⟩ := Option.map_eq_some_iff.1 h
        obtain ⟨e, r⟩ := enc_step l hb hfg.1 hfg.2
        obtain ⟨i1, i2, i3⟩ := decode_good n _ m1 (byteOk_drop hb _) h1
        refine ⟨?_, ?_, ?_⟩
        · rw [List.flatMap_cons, e, i1, List.take_append_drop]
        · intro x hx
          rcases List.mem_cons.1 hx with rfl | hx
          · exact r
          · exact i2 x hx
        · have := sizeOf1_ge hb
          have := hfg.1.1
          rw [List.length_drop] at i3
          rw [List.length_cons]; omega
      · cases h
theorem sameL_refl (l : List S45) : sameL l l = true := by
  refine sameL_true rfl (fun j _ => ?_)
  unfold eq45 diff45
  simp
theorem release_bytes : enc1 (⟨11, 0, 0, 0, 0, ([] : List Int), (⟨0, 0, 0⟩ : S49), false⟩ : S51) = [11, 0, 0, 0, 0, 0, 0, 0, 0, 0, 0, 0] := by decide
theorem traces_true (k : Nat) (hk : 8 ≤ k) : messuagelaw27_traces.f k = some true := by
  unfold messuagelaw27_traces.f
  rw [write_ok [(⟨11, 0, 0, 0, 0, ([] : List Int), (⟨0, 0, 0⟩ : S49), false⟩ : S51)] (by intro x hx; rw [List.mem_singleton] at hx; subst hx; decide) (by simp) k (by simpa using hk)]
  have h1 : trace_Read.f k [1] = some ([], 2) := by
    unfold trace_Read.f
    rw [if_pos ⟨by decide, by simp⟩]
    have : decodeF ([1] : List Int).length [1] = none := by decide
    rw [this]
  have h2 : (strOfNums [11, 0, 0, 0, 0, 0, 0, 0, 0, 0, 0, 0]).toList = ([11, 0, 0, 0, 0, 0, 0, 0, 0, 0, 0, 0] : List UInt8) := by decide +kernel
  simp only [Option.bind_some, h1, List.flatMap_cons, List.flatMap_nil, List.append_nil, release_bytes, h2, if_true]
  rfl
end Go.Proofs.Ytahagjdnjggdaaa.T
