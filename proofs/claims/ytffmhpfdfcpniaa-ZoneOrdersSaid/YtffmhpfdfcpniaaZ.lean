/- What was asked, opened: a struct of a number, a byte and a row of bools. -/
import Derived.Test.YtffmhpfdfcpniaaY
namespace Go.Proofs.Ytffmhpfdfcpniaa.T
open Go.RowKit Go.Proofs.YtffmhpfdfcpniaaW.PrintWords Go.Proofs.YtffmhpfdfcpniaaW.PrintLast Go.Proofs.YtffmhpfdfcpniaaW.PrintMore
open Go.ChangeShapes Go.Deep
set_option linter.unusedVariables false
variable {H : Type} {enc : TypeId × Value → H} {w : World} {base : Nat} {spare : Nat → Bool} {held : Bool}
theorem ask_opened {fuel : Nat} {cs : List Value} {y : DataW H × List MemPlace} (hcs : cs.length = 3) (h : DataW.trod enc Try.prog w base spare held fuel 28 cs = some y) :
    ∃ (n s : Int) (M : Option Addr) (cm : Nat) (l : List Bool), cs = [.int .i64 n, .int .u8 s, .slice M l.length cm] ∧ l.length ≤ cm ∧ Kd.C Kd.bool w M l.length l := by
  obtain ⟨ys, n, _, _, hl, hlen, hf⟩ := DataW.trod_struct Try.underlying28 h
  have c3 : Try.prog.cellsOf 3 = 1 := by kernel_rfl
  have c5 : Try.prog.cellsOf 5 = 1 := by kernel_rfl
  have c26 : Try.prog.cellsOf 26 = 1 := by kernel_rfl
  have hl3 : ys.length = 3 := hlen
  have h0 : DataW.trod enc Try.prog w base spare held n 3 ((cs.drop 0).take (Try.prog.cellsOf 3)) = some ys[0] := (hf 0 _ rfl).trans (List.getElem?_eq_getElem (show 0 < ys.length by omega))
  have h1 : DataW.trod enc Try.prog w base spare held n 5 ((cs.drop 1).take (Try.prog.cellsOf 5)) = some ys[1] := (hf 1 _ rfl).trans (List.getElem?_eq_getElem (show 1 < ys.length by omega))
  have h2 : DataW.trod enc Try.prog w base spare held n 26 ((cs.drop 2).take (Try.prog.cellsOf 26)) = some ys[2] := (hf 2 _ rfl).trans (List.getElem?_eq_getElem (show 2 < ys.length by omega))
  obtain ⟨x0, e0, _⟩ := one_int Try.underlying3 c3 h0
  obtain ⟨x1, e1, _⟩ := one_int Try.underlying5 c5 h1
  obtain ⟨M, cm, l, e2, hlc, hM⟩ := bools_opened h2
  refine ⟨x0, x1, M, cm, l, ?_, hlc, hM⟩
  rw [c26] at e2
  clear h h0 h1 h2 hf hl
  obtain ⟨a, cs, rfl⟩ := List.exists_cons_of_length_pos (show 0 < cs.length by omega)
  obtain ⟨b, cs, rfl⟩ := List.exists_cons_of_length_pos (show 0 < cs.length by simp only [List.length_cons] at hcs; omega)
  obtain ⟨c, cs, rfl⟩ := List.exists_cons_of_length_pos (show 0 < cs.length by simp only [List.length_cons] at hcs; omega)
  obtain rfl : cs = [] := List.length_eq_zero_iff.1 (by simp only [List.length_cons] at hcs; omega)
  have g0 : a = .int .i64 x0 := Option.some.inj e0
  have g1 : b = .int .u8 x1 := Option.some.inj e1
  have g2 : c = .slice M l.length cm := (List.cons.inj e2).1
  rw [g0, g1, g2]
end Go.Proofs.Ytffmhpfdfcpniaa.T
