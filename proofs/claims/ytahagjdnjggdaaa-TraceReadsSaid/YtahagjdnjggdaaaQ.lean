/- TraceReads: the walk and the plain law joined. -/
import Derived.Test.YtahagjdnjggdaaaO
import Derived.Test.YtahagjdnjggdaaaH
namespace Go.Proofs.Ytahagjdnjggdaaa.T
open Go.RowKit Go.Proofs.YtahagjdnjggdaaaW.PrintWords Go.Proofs.YtahagjdnjggdaaaW.PrintLast Go.Proofs.YtahagjdnjggdaaaW.PrintMore
set_option linter.unusedVariables false
theorem byteOk_take {l : List Int} (h : byteOk l) (n : Nat) : byteOk (l.take n) := fun x hx => h x (List.mem_of_mem_take hx)
theorem byteOk_wf {l : List Int} (h : ∀ x ∈ l, (Lit.int .u8 x).wf = true) : byteOk l := by
  intro x hx
  have := h x hx
  simp [Lit.wf, IntKind.min, IntKind.max, IntKind.signed, IntKind.bits] at this
  omega
theorem reads_law (A0 : Option Addr) (c0 : Nat) (l0 : List Int) (w : World) (hr0 : Kd.C (Kd.int .u8) w A0 l0.length l0) (hc0 : l0.length ≤ c0) (hb0 : byteOk l0) :
    Calls Try.prog 4 #[.slice A0 l0.length c0] w fun e w' => e = .returned (.bool true) ∧ Below w.heap.size w w' := by
  obtain ⟨y, hy⟩ : ∃ y, l0.take 500 = y := ⟨_, rfl⟩
  have hb : byteOk y := by rw [← hy]; exact byteOk_take hb0 _
  have hyl : y.length ≤ 500 := by rw [← hy]; exact List.length_take_le _ _
  have hif : byteOk y ∧ y.length < 1000000000000 := ⟨hb, by omega⟩
  cases hd : decodeF y.length y with
  | none =>
    refine reads_bad 600 A0 c0 l0 y [] [] [] w hr0 hc0 hy ?_ ?_ (traces_true _ (by omega)) (from_value [] (by simp) 600 (by simp)) ?_
    · unfold trace_Read.f; rw [if_pos hif, hd]
    · unfold messuageref27_Read.f; rw [if_pos hif, hd]
    · unfold messuageref27_Same.f; rw [sameL_refl]
  | some m =>
    obtain ⟨h1, h2, h3⟩ := decode_good _ _ _ hb hd
    refine reads_good 600 A0 c0 l0 y m (m.map from51) (m.map from51) w hr0 hc0 hy ?_ ?_ (traces_true _ (by omega)) (from_value m (by omega) 600 (by omega)) ?_ ?_
    · unfold trace_Read.f; rw [if_pos hif, hd]
    · unfold messuageref27_Read.f; rw [if_pos hif, hd]
    · unfold messuageref27_Same.f; rw [sameL_refl]
    · rw [write_ok m h2 (by omega) 600 (by omega), h1]
theorem reads_row (a0 : Option Addr) (len0 cap0 : Nat) (z0 : List Int) (w : World) (w0 : (a0 = none ∧ len0 = 0 ∧ cap0 = 0 ∧ z0 = []) ∨ ∃ x, a0 = some x ∧ len0 ≤ cap0 ∧ cap0 ≤ maxLen ∧ z0.length = cap0 ∧ (∀ i, i < z0.length → w.cell? (x.add i) = some (.int .u8 (z0.getD i 0))) ∧ ∀ n ∈ z0, (Lit.int .u8 n).wf = true) :
    Calls Try.prog 4 #[.slice a0 len0 cap0] w fun e w' => e = .returned (.bool true) ∧ Below w.heap.size w w' := by
  obtain ⟨l0, rfl, hr0, hm0, hw0, hc0⟩ := ReadsInt.ofRowC w0
  exact reads_law _ _ l0 w (Kd.C_of_reads (d := (0 : Int)) (h1 := fun _ => rfl) hr0) hc0 (byteOk_wf hw0)
end Go.Proofs.Ytahagjdnjggdaaa.T
