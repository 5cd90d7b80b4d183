/- The row of a law's argument of steps: what the reading of it says, as a row of plain steps. -/
import Derived.Test.YtahagjdnjggdaaaA
import Derived.Deep.Slices
import Derived.Deep.Strs
import Derived.ChangeArms
import Derived.ChangeSlices
namespace Go.Proofs.Ytahagjdnjggdaaa.T
open Go.RowKit Go.Proofs.YtahagjdnjggdaaaW.PrintWords Go.Proofs.YtahagjdnjggdaaaW.PrintLast Go.Proofs.YtahagjdnjggdaaaW.PrintMore
open Go.ChangeShapes Go.Deep
set_option linter.unusedVariables false
set_option linter.unusedSimpArgs false
variable {H : Type} {enc : TypeId × Value → H}
theorem one_int {w : World} {base : Nat} {spare : Nat → Bool} {held : Bool} {n : Nat} {k : IntKind} {t : TypeId} {cs : List Value} {off : Nat} {y : DataW H × List MemPlace} (ht : Try.prog.underlying t = some (.int k)) (hc : Try.prog.cellsOf t = 1)
    (h : DataW.trod enc Try.prog w base spare held n t ((cs.drop off).take (Try.prog.cellsOf t)) = some y) : ∃ z, cs[off]? = some (.int k z) ∧ (Lit.int k z).wf = true := by
  obtain ⟨z, hz, _, hw⟩ := DataW.trod_int ht h
  rw [hc] at hz
  refine ⟨z, ?_, hw⟩
  have : ((cs.drop off).take 1)[0]? = some (.int k z) := by rw [hz]; rfl
  simpa [List.getElem?_take, List.getElem?_drop] using this
theorem one_bool {w : World} {base : Nat} {spare : Nat → Bool} {held : Bool} {n : Nat} {t : TypeId} {cs : List Value} {off : Nat} {y : DataW H × List MemPlace} (ht : Try.prog.underlying t = some .bool) (hc : Try.prog.cellsOf t = 1)
    (h : DataW.trod enc Try.prog w base spare held n t ((cs.drop off).take (Try.prog.cellsOf t)) = some y) : ∃ z, cs[off]? = some (.bool z) := by
  obtain ⟨z, hz, _⟩ := DataW.trod_bool ht h
  rw [hc] at hz
  refine ⟨z, ?_⟩
  have : ((cs.drop off).take 1)[0]? = some (.bool z) := by rw [hz]; rfl
  simpa [List.getElem?_take, List.getElem?_drop] using this
theorem one_bytes {w : World} {base : Nat} {spare : Nat → Bool} {held : Bool} {n : Nat} {cs : List Value} {off : Nat} {y : DataW H × List MemPlace}
    (h : DataW.trod enc Try.prog w base spare held n 26 ((cs.drop off).take (Try.prog.cellsOf 26)) = some y) : ∃ (A : Option Addr) (c : Nat) (l : List Int), cs[off]? = some (.slice A l.length c) ∧ l.length ≤ c ∧ Kd.C (Kd.int .u8) w A l.length l ∧ byteOk l := by
  have hc : Try.prog.cellsOf 26 = 1 := by kernel_rfl
  have hof : ∀ v, (cs.drop off).take (Try.prog.cellsOf 26) = [v] → cs[off]? = some v := by
    intro v hv
    rw [hc] at hv
    have : ((cs.drop off).take 1)[0]? = some v := by rw [hv]; rfl
    simpa [List.getElem?_take, List.getElem?_drop] using this
  rcases open_ints Try.underlying26 Try.underlying5 (by kernel_rfl) h with ⟨hcs, _⟩ | ⟨a, len, cap, zs, hcs, _, hl, hm, hz, _, hcell, hwz⟩
  · refine ⟨none, 0, [], hof _ hcs, Nat.le_refl _, ?_, ?_⟩
    · exact ⟨rfl, by simp, fun h => by simp at h⟩
    · intro x hx; simp at hx
  · have hzl : len ≤ zs.length := by rw [hz]; split <;> omega
    have hlen : (zs.take len).length = len := by rw [List.length_take]; omega
    refine ⟨some a, cap, zs.take len, ?_, by omega, ?_, ?_⟩
    · rw [hlen]; exact hof _ hcs
    · rw [hlen]
      refine Kd.C_of_reads (d := (0 : Int)) (h1 := fun _ => rfl) ?_
      refine ⟨hlen, by have : maxLen = 9223372036854775807 := by decide
                       omega, fun hp => ⟨a, rfl, fun j hj => ?_⟩⟩
      have h1 := hcell j (by omega)
      rw [h1]
      congr 2
      rw [List.getD_eq_getElem?_getD, List.getD_eq_getElem?_getD, List.getElem?_take, if_pos hj]
    · intro x hx
      have := hwz x (List.mem_of_mem_take hx)
      simp [Lit.wf, IntKind.min, IntKind.max, IntKind.signed, IntKind.bits] at this
      omega
theorem step_opened {w : World} {base : Nat} {spare : Nat → Bool} {held : Bool} {fuel : Nat} {cs : List Value} {y : DataW H × List MemPlace} (h : DataW.trod enc Try.prog w base spare held fuel 45 cs = some y) : ∃ x : S45, k45.K w x cs ∧ byteStep (to51 x) := by
  obtain ⟨ys, n, _, _, hl, hlen, hf⟩ := DataW.trod_struct Try.underlying45 h
  have c3 : Try.prog.cellsOf 3 = 1 := by kernel_rfl
  have c4 : Try.prog.cellsOf 4 = 1 := by kernel_rfl
  have c5 : Try.prog.cellsOf 5 = 1 := by kernel_rfl
  have c43 : Try.prog.cellsOf 43 = 3 := by kernel_rfl
  have c45 : Try.prog.cellsOf 45 = 10 := by kernel_rfl
  rw [c45] at hl
  have hl8 : ys.length = 8 := hlen
  have h0 : DataW.trod enc Try.prog w base spare held n 3 ((cs.drop 0).take (Try.prog.cellsOf 3)) = some ys[0] := (hf 0 _ rfl).trans (List.getElem?_eq_getElem (show 0 < ys.length by omega))
  have h1 : DataW.trod enc Try.prog w base spare held n 3 ((cs.drop 1).take (Try.prog.cellsOf 3)) = some ys[1] := (hf 1 _ rfl).trans (List.getElem?_eq_getElem (show 1 < ys.length by omega))
  have h2 : DataW.trod enc Try.prog w base spare held n 3 ((cs.drop 2).take (Try.prog.cellsOf 3)) = some ys[2] := (hf 2 _ rfl).trans (List.getElem?_eq_getElem (show 2 < ys.length by omega))
  have h3 : DataW.trod enc Try.prog w base spare held n 3 ((cs.drop 3).take (Try.prog.cellsOf 3)) = some ys[3] := (hf 3 _ rfl).trans (List.getElem?_eq_getElem (show 3 < ys.length by omega))
  have h4 : DataW.trod enc Try.prog w base spare held n 3 ((cs.drop 4).take (Try.prog.cellsOf 3)) = some ys[4] := (hf 4 _ rfl).trans (List.getElem?_eq_getElem (show 4 < ys.length by omega))
  have h5 : DataW.trod enc Try.prog w base spare held n 26 ((cs.drop 5).take (Try.prog.cellsOf 26)) = some ys[5] := (hf 5 _ rfl).trans (List.getElem?_eq_getElem (show 5 < ys.length by omega))
  have h6 : DataW.trod enc Try.prog w base spare held n 43 ((cs.drop 6).take (Try.prog.cellsOf 43)) = some ys[6] := (hf 6 _ rfl).trans (List.getElem?_eq_getElem (show 6 < ys.length by omega))
  have h7 : DataW.trod enc Try.prog w base spare held n 4 ((cs.drop 9).take (Try.prog.cellsOf 4)) = some ys[7] := (hf 7 _ rfl).trans (List.getElem?_eq_getElem (show 7 < ys.length by omega))
  obtain ⟨x0, e0, _⟩ := one_int Try.underlying3 c3 h0
  obtain ⟨x1, e1, _⟩ := one_int Try.underlying3 c3 h1
  obtain ⟨x2, e2, _⟩ := one_int Try.underlying3 c3 h2
  obtain ⟨x3, e3, _⟩ := one_int Try.underlying3 c3 h3
  obtain ⟨x4, e4, _⟩ := one_int Try.underlying3 c3 h4
  obtain ⟨A5, cp5, l5, e5, hc5, hC5, hb5⟩ := one_bytes h5
  obtain ⟨x7, e9⟩ := one_bool Try.underlying4 c4 h7
  obtain ⟨p0, p1, p2, m, _, _, k0, k1, k2⟩ := trod_struct3 Try.underlying43 h6
  obtain ⟨z0, f0, _⟩ := one_int Try.underlying3 c3 k0
  obtain ⟨z1, f1, w1⟩ := one_int Try.underlying5 c5 k1
  obtain ⟨z2, f2, _⟩ := one_int Try.underlying3 c3 k2
  replace f0 : ((cs.drop 6).take (Try.prog.cellsOf 43))[0]? = some (.int .i64 z0) := f0
  replace f1 : ((cs.drop 6).take (Try.prog.cellsOf 43))[1]? = some (.int .u8 z1) := f1
  replace f2 : ((cs.drop 6).take (Try.prog.cellsOf 43))[2]? = some (.int .i64 z2) := f2
  rw [c43] at f0 f1 f2
  simp only [List.getElem?_take, List.getElem?_drop] at f0 f1 f2
  have e6 : cs[6]? = some (.int .i64 z0) := by simpa using f0
  have e7 : cs[7]? = some (.int .u8 z1) := by simpa using f1
  have e8 : cs[8]? = some (.int .i64 z2) := by simpa using f2
  have hcs : cs = [.int .i64 x0, .int .i64 x1, .int .i64 x2, .int .i64 x3, .int .i64 x4, .slice A5 l5.length cp5, .int .i64 z0, .int .u8 z1, .int .i64 z2, .bool x7] := by
    refine List.ext_getElem? fun i => ?_
    rcases Nat.lt_or_ge i 10 with hi | hi
    · have : i = 0 ∨ i = 1 ∨ i = 2 ∨ i = 3 ∨ i = 4 ∨ i = 5 ∨ i = 6 ∨ i = 7 ∨ i = 8 ∨ i = 9 := by omega
      rcases this with rfl | rfl | rfl | rfl | rfl | rfl | rfl | rfl | rfl | rfl <;> first | exact e0 | exact e1 | exact e2 | exact e3 | exact e4 | exact e5 | exact e6 | exact e7 | exact e8 | exact e9
    · rw [List.getElem?_eq_none (by omega), List.getElem?_eq_none (by simpa using hi)]
  refine ⟨⟨x0, x1, x2, x3, x4, l5, ⟨z0, z1, z2⟩, x7⟩, ?_, ?_⟩
  · rw [hcs]
    exact k45_mk w (⟨x0, x1, x2, x3, x4, l5, ⟨z0, z1, z2⟩, x7⟩ : S45) hc5 hC5
  · simp [Lit.wf, IntKind.min, IntKind.max, IntKind.signed, IntKind.bits] at w1
    exact ⟨by show 0 ≤ z1; omega, by show z1 ≤ 255; omega, hb5⟩
theorem steps_opened {w : World} {base : Nat} {spare : Nat → Bool} {held : Bool} {fuel : Nat} {A : Option Addr} {len cap : Nat} {y : DataW H × List MemPlace} (h : DataW.trod enc Try.prog w base spare held fuel 22 [.slice A len cap] = some y) : ∃ l0 : List S45, l0.length = len ∧ len ≤ cap ∧ Kd.C k45 w A len l0 ∧ (∀ x ∈ l0, byteStep (to51 x)) := by
  have c45 : Try.prog.cellsOf 45 = 10 := by kernel_rfl
  rcases open_slice Try.underlying22 h with ⟨hcs, _⟩ | ⟨a, ln, cp, m, n, D, Pl, hcs, _, hl, hm, hmm, _, he⟩
  · injection (List.cons.inj hcs).1 with h1 h2 h3
    subst h1 h2 h3
    exact ⟨[], rfl, Nat.le_refl _, ⟨rfl, by simp, fun h => by simp at h⟩, by intro x hx; simp at hx⟩
  · injection (List.cons.inj hcs).1 with h1 h2 h3
    subst h1 h2 h3
    have hmx : maxLen = 9223372036854775807 := by decide
    haveI : Inhabited S45 := ⟨z45⟩
    have hlm : len ≤ m := by rw [hmm]; split <;> omega
    have hx : ∀ i, i < len → ∃ x : S45, (∃ c, c.length = 10 ∧ k45.K w x c ∧ ∀ j u, c[j]? = some u → w.cell? (a.add (i * 10 + j)) = some u) ∧ byteStep (to51 x) := by
      intro i hi
      obtain ⟨cs', hcs', ht⟩ := he i (by omega)
      rw [c45] at hcs'
      obtain ⟨_, hlen, hcell⟩ := World.cells?_some hcs'
      obtain ⟨x, hK, hB⟩ := step_opened ht
      refine ⟨x, ⟨cs', hlen, hK, fun j u hj => ?_⟩, hB⟩
      have hj2 : j < 10 := by
        rcases Nat.lt_or_ge j 10 with h | h
        · exact h
        · rw [List.getElem?_eq_none (by omega)] at hj; cases hj
      have := hcell j hj2
      rw [hj] at this
      rw [← this, Addr.add_add]
    obtain ⟨F, hF⟩ : ∃ F : Nat → S45, ∀ i, i < len → (∃ c, c.length = 10 ∧ k45.K w (F i) c ∧ ∀ j u, c[j]? = some u → w.cell? (a.add (i * 10 + j)) = some u) ∧ byteStep (to51 (F i)) := choose_lt hx
    refine ⟨(List.range len).map F, by rw [List.length_map, List.length_range], hl, ⟨by rw [List.length_map, List.length_range], by omega, fun hp => ⟨a, rfl, fun j p hj => ?_⟩⟩, ?_⟩
    · have hj2 : j < len := by
        rcases Nat.lt_or_ge j len with h | h
        · exact h
        · rw [List.getElem?_eq_none (by simpa using h)] at hj; cases hj
      have hp : F j = p := by simpa [List.getElem?_map, List.getElem?_range hj2] using hj
      subst hp
      exact (hF j hj2).1
    · intro x hx
      obtain ⟨i, hi, rfl⟩ := List.mem_map.1 hx
      exact (hF i (List.mem_range.1 hi)).2
end Go.Proofs.Ytahagjdnjggdaaa.T
