/- Arguments opened: machines, rows of bools, policies, what was asked. -/
import Derived.Test.YtffmhpfdfcpniaaQ
import Derived.OpenShut
import Derived.Deep.Slices
import Derived.Deep.Strs
import Derived.ChangeArms
import Derived.ChangeSlices
namespace Go.Proofs.Ytffmhpfdfcpniaa.T
open Go.RowKit Go.Proofs.YtffmhpfdfcpniaaW.PrintWords Go.Proofs.YtffmhpfdfcpniaaW.PrintLast Go.Proofs.YtffmhpfdfcpniaaW.PrintMore
open Go.ChangeShapes Go.Deep
set_option linter.unusedVariables false
variable {H : Type} {enc : TypeId × Value → H} {w : World} {base : Nat} {spare : Nat → Bool} {held : Bool}
theorem one_int {n : Nat} {k : IntKind} {t : TypeId} {cs : List Value} {off : Nat} {y : DataW H × List MemPlace} (ht : Try.prog.underlying t = some (.int k)) (hc : Try.prog.cellsOf t = 1)
    (h : DataW.trod enc Try.prog w base spare held n t ((cs.drop off).take (Try.prog.cellsOf t)) = some y) : ∃ z, cs[off]? = some (.int k z) ∧ (Lit.int k z).wf = true := by
  obtain ⟨z, hz, _, hw⟩ := DataW.trod_int ht h
  rw [hc] at hz
  refine ⟨z, ?_, hw⟩
  have : ((cs.drop off).take 1)[0]? = some (.int k z) := by rw [hz]; rfl
  simpa [List.getElem?_take, List.getElem?_drop] using this
theorem ints_opened {fuel : Nat} {cs : List Value} {y : DataW H × List MemPlace} (h : DataW.trod enc Try.prog w base spare held fuel 22 cs = some y) : ∃ (A : Option Addr) (c : Nat) (l : List Int), cs = [.slice A l.length c] ∧ l.length ≤ c ∧ Kd.C (Kd.int .i64) w A l.length l := by
  rcases open_ints Try.underlying22 Try.underlying3 (by kernel_rfl) h with ⟨hcs, _⟩ | ⟨x, l, c, zs, hcs, _, hl, hm, hz, _, hcell, hwz⟩
  · exact ⟨none, 0, [], hcs, Nat.le_refl _, rfl, by decide, fun h => absurd h (by decide)⟩
  · have hmx : maxLen = 9223372036854775807 := by decide
    have hlz : l ≤ zs.length := by rw [hz]; split <;> omega
    have hll : (zs.take l).length = l := by rw [List.length_take]; omega
    refine ⟨some x, c, zs.take l, by rw [hll]; exact hcs, by omega, ?_⟩
    refine Kd.C_of_reads (d := (0 : Int)) (h1 := fun _ => rfl) ⟨rfl, by omega, fun _ => ⟨_, rfl, fun j hj => ?_⟩⟩
    rw [hcell j (by omega), List.getD_eq_getElem?_getD, List.getD_eq_getElem?_getD, List.getElem?_take_of_lt (by omega)]
theorem bools_opened {fuel : Nat} {cs : List Value} {y : DataW H × List MemPlace} (h : DataW.trod enc Try.prog w base spare held fuel 26 cs = some y) : ∃ (A : Option Addr) (c : Nat) (l : List Bool), cs = [.slice A l.length c] ∧ l.length ≤ c ∧ Kd.C Kd.bool w A l.length l := by
  rcases open_slice1 Try.underlying26 (by kernel_rfl) h with ⟨hcs, _⟩ | ⟨a, len, cap, m, n, V, D, Pl, hcs, _, hl, hm, hmm, _, hx⟩
  · exact ⟨none, 0, [], hcs, Nat.le_refl _, rfl, by decide, fun h => absurd h (by decide)⟩
  · have hmx : maxLen = 9223372036854775807 := by decide
    have hlm : len ≤ m := by rw [hmm]; split <;> omega
    obtain ⟨F, hF⟩ := choose_lt (n := len) (α := Bool) (p := fun i b => w.cell? (a.add i) = some (.bool b)) (fun i hi => by
      obtain ⟨h1, h2⟩ := hx i (by omega)
      obtain ⟨b, hb, _⟩ := DataW.trod_bool Try.underlying4 h2
      have hv : V i = .bool b := by simpa using hb
      exact ⟨b, by rw [h1, hv]⟩)
    have hll : ((List.range len).map F).length = len := by simp
    refine ⟨some a, cap, (List.range len).map F, by rw [hll]; exact hcs, by omega, ?_⟩
    refine Kd.C_of_reads (d := false) (h1 := fun _ => rfl) ⟨rfl, by omega, fun _ => ⟨_, rfl, fun j hj => ?_⟩⟩
    rw [hll] at hj
    rw [hF j hj, List.getD_eq_getElem?_getD, List.getElem?_map, List.getElem?_range hj]; rfl
theorem grid_opened {fuel : Nat} {cs : List Value} {y : DataW H × List MemPlace} (h : DataW.trod enc Try.prog w base spare held fuel 23 cs = some y) : ∃ (A : Option Addr) (c : Nat) (l : List (List Int)), cs = [.slice A l.length c] ∧ l.length ≤ c ∧ Kd.C (Kd.slice 3 (Kd.int .i64)) w A l.length l := by
  rcases open_slice1 Try.underlying23 (by kernel_rfl) h with ⟨hcs, _⟩ | ⟨a, len, cap, m, n, V, D, Pl, hcs, _, hl, hm, hmm, _, hx⟩
  · exact ⟨none, 0, [], hcs, Nat.le_refl _, rfl, by decide, fun h => absurd h (by decide)⟩
  · have hmx : maxLen = 9223372036854775807 := by decide
    have hlm : len ≤ m := by rw [hmm]; split <;> omega
    obtain ⟨F, hF⟩ := choose_lt (n := len) (α := List Int) (p := fun i l => ∃ A c, w.cell? (a.add i) = some (.slice A l.length c) ∧ l.length ≤ c ∧ Kd.C (Kd.int .i64) w A l.length l) (fun i hi => by
      obtain ⟨h1, h2⟩ := hx i (by omega)
      obtain ⟨A, c, l, hv, hlc, hC⟩ := ints_opened h2
      have hv' : V i = .slice A l.length c := by simpa using hv
      exact ⟨l, A, c, by rw [h1, hv'], hlc, hC⟩)
    have hll : ((List.range len).map F).length = len := by simp
    refine ⟨some a, cap, (List.range len).map F, by rw [hll]; exact hcs, by omega, rfl, by omega, fun _ => ⟨a, rfl, fun j p hp => ?_⟩⟩
    have hj : j < len := by have := (List.getElem?_eq_some_iff.1 hp).1; rw [hll] at this; exact this
    rw [List.getElem?_map, List.getElem?_range hj] at hp
    obtain rfl : F j = p := Option.some.inj hp
    obtain ⟨A, c, h1, h2, h3⟩ := hF j hj
    refine ⟨[.slice A (F j).length c], rfl, ⟨A, c, rfl, h2, h3⟩, fun i u hu => ?_⟩
    match i, hu with
    | 0, hu => obtain rfl := Option.some.inj hu; show w.cell? (a.add (j * 1 + 0)) = _; rw [Nat.mul_one, Nat.add_zero]; exact h1
theorem topo_opened {fuel : Nat} {cs : List Value} {y : DataW H × List MemPlace} (hcs : cs.length = 4) (h : DataW.trod enc Try.prog w base spare held fuel 25 cs = some y) :
    ∃ (n f : Int) (A : Option Addr) (ca : Nat) (cpus : List Int) (B : Option Addr) (cb : Nat) (dist : List (List Int)), cs = [.int .i64 n, .int .i64 f, .slice A cpus.length ca, .slice B dist.length cb] ∧ cpus.length ≤ ca ∧ dist.length ≤ cb ∧ Kd.C (Kd.int .i64) w A cpus.length cpus ∧ Kd.C (Kd.slice 3 (Kd.int .i64)) w B dist.length dist := by
  obtain ⟨ys, n, _, _, hl, hlen, hf⟩ := DataW.trod_struct Try.underlying25 h
  have c3 : Try.prog.cellsOf 3 = 1 := by kernel_rfl
  have c22 : Try.prog.cellsOf 22 = 1 := by kernel_rfl
  have c23 : Try.prog.cellsOf 23 = 1 := by kernel_rfl
  have hl4 : ys.length = 4 := hlen
  have h0 : DataW.trod enc Try.prog w base spare held n 3 ((cs.drop 0).take (Try.prog.cellsOf 3)) = some ys[0] := (hf 0 _ rfl).trans (List.getElem?_eq_getElem (show 0 < ys.length by omega))
  have h1 : DataW.trod enc Try.prog w base spare held n 3 ((cs.drop 1).take (Try.prog.cellsOf 3)) = some ys[1] := (hf 1 _ rfl).trans (List.getElem?_eq_getElem (show 1 < ys.length by omega))
  have h2 : DataW.trod enc Try.prog w base spare held n 22 ((cs.drop 2).take (Try.prog.cellsOf 22)) = some ys[2] := (hf 2 _ rfl).trans (List.getElem?_eq_getElem (show 2 < ys.length by omega))
  have h3 : DataW.trod enc Try.prog w base spare held n 23 ((cs.drop 3).take (Try.prog.cellsOf 23)) = some ys[3] := (hf 3 _ rfl).trans (List.getElem?_eq_getElem (show 3 < ys.length by omega))
  obtain ⟨x0, e0, _⟩ := one_int Try.underlying3 c3 h0
  obtain ⟨x1, e1, _⟩ := one_int Try.underlying3 c3 h1
  obtain ⟨A, ca, l, e2, hlc, hC⟩ := ints_opened h2
  obtain ⟨B, cb, d, e3, hdc, hD⟩ := grid_opened h3
  refine ⟨x0, x1, A, ca, l, B, cb, d, ?_, hlc, hdc, hC, hD⟩
  rw [c22] at e2
  rw [c23] at e3
  clear h h0 h1 h2 h3 hf hl
  obtain ⟨a, cs, rfl⟩ := List.exists_cons_of_length_pos (show 0 < cs.length by omega)
  obtain ⟨b, cs, rfl⟩ := List.exists_cons_of_length_pos (show 0 < cs.length by simp only [List.length_cons] at hcs; omega)
  obtain ⟨c, cs, rfl⟩ := List.exists_cons_of_length_pos (show 0 < cs.length by simp only [List.length_cons] at hcs; omega)
  obtain ⟨d', cs, rfl⟩ := List.exists_cons_of_length_pos (show 0 < cs.length by simp only [List.length_cons] at hcs; omega)
  obtain rfl : cs = [] := List.length_eq_zero_iff.1 (by simp only [List.length_cons] at hcs; omega)
  have g0 : a = .int .i64 x0 := Option.some.inj e0
  have g1 : b = .int .i64 x1 := Option.some.inj e1
  have g2 : c = .slice A l.length ca := (List.cons.inj e2).1
  have g3 : d' = .slice B d.length cb := (List.cons.inj e3).1
  rw [g0, g1, g2, g3]
end Go.Proofs.Ytffmhpfdfcpniaa.T
namespace Go.Proofs.Ytffmhpfdfcpniaa.T
open Go.RowKit Go.Proofs.YtffmhpfdfcpniaaW.PrintWords Go.Proofs.YtffmhpfdfcpniaaW.PrintLast Go.Proofs.YtffmhpfdfcpniaaW.PrintMore
open Go.ChangeShapes Go.Deep
set_option linter.unusedVariables false
variable {H : Type} {enc : TypeId × Value → H} {w : World} {base : Nat} {spare : Nat → Bool} {held : Bool}
theorem ask_opened {fuel : Nat} {cs : List Value} {y : DataW H × List MemPlace} (hcs : cs.length = 3) (h : DataW.trod enc Try.prog w base spare held fuel 28 cs = some y) :
    ∃ (n s : Int) (M : Option Addr) (cm : Nat) (l : List Bool), cs = [.int .i64 n, .int .u8 s, .slice M l.length cm] ∧ l.length ≤ cm ∧ Kd.C Kd.bool w M l.length l := by
  obtain ⟨ys, n, _, _, hl, hlen, hf⟩ := DataW.trod_struct Try.underlying28 h
  have c3 : Try.prog.cellsOf 3 = 1 := by kernel_rfl
  have c5 : Try.prog.cellsOf 5 = 1 := by kernel_rfl
  have c26 : Try.prog.cellsOf 26 = 1 := by kernel_rfl
  have hl3 : ys.length = 3 := hlen
  have h0 : DataW.trod enc Try.prog w base spare held n 3 ((cs.drop 0).take (Try.prog.cellsOf 3)) = some ys[0] := (hf 0 _ rfl).trans (List.getElem?_eq_getElem (show 0 < ys.length by omega))
  have h1 : DataW.trod enc Try.prog w base spare held n 5 ((cs.drop 1).take (Try.prog.cellsOf 5)) = some ys[1] := (hf 1 _ rfl).trans (List.getElem?_eq_getElem (show 1 < ys.length by omega))
  have h2 : DataW.trod enc Try.prog w base spare held n 26 ((cs.drop 2).take (Try.prog.cellsOf 26)) = some ys[2] := (hf 2 _ rfl).trans (List.getElem?_eq_getElem (show 2 < ys.length by omega))
  obtain ⟨x0, e0, _⟩ := one_int Try.underlying3 c3 h0
  obtain ⟨x1, e1, _⟩ := one_int Try.underlying5 c5 h1
  obtain ⟨M, cm, l, e2, hlc, hM⟩ := bools_opened h2
  refine ⟨x0, x1, M, cm, l, ?_, hlc, hM⟩
  rw [c26] at e2
  clear h h0 h1 h2 hf hl
  obtain ⟨a, cs, rfl⟩ := List.exists_cons_of_length_pos (show 0 < cs.length by omega)
  obtain ⟨b, cs, rfl⟩ := List.exists_cons_of_length_pos (show 0 < cs.length by simp only [List.length_cons] at hcs; omega)
  obtain ⟨c, cs, rfl⟩ := List.exists_cons_of_length_pos (show 0 < cs.length by simp only [List.length_cons] at hcs; omega)
  obtain rfl : cs = [] := List.length_eq_zero_iff.1 (by simp only [List.length_cons] at hcs; omega)
  have g0 : a = .int .i64 x0 := Option.some.inj e0
  have g1 : b = .int .u8 x1 := Option.some.inj e1
  have g2 : c = .slice M l.length cm := (List.cons.inj e2).1
  rw [g0, g1, g2]
end Go.Proofs.Ytffmhpfdfcpniaa.T
namespace Go.Proofs.Ytffmhpfdfcpniaa.T
open Go.RowKit Go.Proofs.YtffmhpfdfcpniaaW.PrintWords Go.Proofs.YtffmhpfdfcpniaaW.PrintLast Go.Proofs.YtffmhpfdfcpniaaW.PrintMore
open Go.ChangeShapes Go.Deep
set_option linter.unusedVariables false
variable {H : Type} {enc : TypeId × Value → H} {w : World} {base : Nat} {spare : Nat → Bool} {held : Bool}
theorem pol_opened {fuel : Nat} {cs : List Value} {y : DataW H × List MemPlace} (hcs : cs.length = 3) (h : DataW.trod enc Try.prog w base spare held fuel 49 cs = some y) :
    ∃ (m : Int) (s : Nat) (nd : Int), s < 256 ∧ cs = [.int .i64 m, .int .u8 s, .int .i64 nd] := by
  obtain ⟨ys, n, _, _, hl, hlen, hf⟩ := DataW.trod_struct Try.underlying49 h
  have c3 : Try.prog.cellsOf 3 = 1 := by kernel_rfl
  have c5 : Try.prog.cellsOf 5 = 1 := by kernel_rfl
  have hl3 : ys.length = 3 := hlen
  have h0 : DataW.trod enc Try.prog w base spare held n 3 ((cs.drop 0).take (Try.prog.cellsOf 3)) = some ys[0] := (hf 0 _ rfl).trans (List.getElem?_eq_getElem (show 0 < ys.length by omega))
  have h1 : DataW.trod enc Try.prog w base spare held n 5 ((cs.drop 1).take (Try.prog.cellsOf 5)) = some ys[1] := (hf 1 _ rfl).trans (List.getElem?_eq_getElem (show 1 < ys.length by omega))
  have h2 : DataW.trod enc Try.prog w base spare held n 3 ((cs.drop 2).take (Try.prog.cellsOf 3)) = some ys[2] := (hf 2 _ rfl).trans (List.getElem?_eq_getElem (show 2 < ys.length by omega))
  obtain ⟨x0, e0, _⟩ := one_int Try.underlying3 c3 h0
  obtain ⟨x1, e1, hw⟩ := one_int Try.underlying5 c5 h1
  obtain ⟨x2, e2, _⟩ := one_int Try.underlying3 c3 h2
  have hx0 : IntKind.u8.min ≤ x1 ∧ x1 ≤ IntKind.u8.max := by simpa [Lit.wf] using hw
  have k0 : IntKind.u8.min = 0 := by decide
  have k1 : IntKind.u8.max = 255 := by decide
  have hx1 : 0 ≤ x1 ∧ x1 < 256 := by omega
  refine ⟨x0, x1.toNat, x2, by omega, ?_⟩
  rw [Int.toNat_of_nonneg hx1.1]
  clear h h0 h1 h2 hf hl
  obtain ⟨a, cs, rfl⟩ := List.exists_cons_of_length_pos (show 0 < cs.length by omega)
  obtain ⟨b, cs, rfl⟩ := List.exists_cons_of_length_pos (show 0 < cs.length by simp only [List.length_cons] at hcs; omega)
  obtain ⟨c, cs, rfl⟩ := List.exists_cons_of_length_pos (show 0 < cs.length by simp only [List.length_cons] at hcs; omega)
  obtain rfl : cs = [] := List.length_eq_zero_iff.1 (by simp only [List.length_cons] at hcs; omega)
  have g0 : a = .int .i64 x0 := Option.some.inj e0
  have g1 : b = .int .u8 x1 := Option.some.inj e1
  have g2 : c = .int .i64 x2 := Option.some.inj e2
  rw [g0, g1, g2]
theorem ask11_opened {fuel : Nat} {cs : List Value} {y : DataW H × List MemPlace} (hcs : cs.length = 3) (h : DataW.trod enc Try.prog w base spare held fuel 51 cs = some y) :
    ∃ (n s : Int) (M : Option Addr) (cm : Nat) (l : List Bool), cs = [.int .i64 n, .int .i64 s, .slice M l.length cm] ∧ l.length ≤ cm ∧ Kd.C Kd.bool w M l.length l := by
  obtain ⟨ys, n, _, _, hl, hlen, hf⟩ := DataW.trod_struct Try.underlying51 h
  have c3 : Try.prog.cellsOf 3 = 1 := by kernel_rfl
  have c26 : Try.prog.cellsOf 26 = 1 := by kernel_rfl
  have hl3 : ys.length = 3 := hlen
  have h0 : DataW.trod enc Try.prog w base spare held n 3 ((cs.drop 0).take (Try.prog.cellsOf 3)) = some ys[0] := (hf 0 _ rfl).trans (List.getElem?_eq_getElem (show 0 < ys.length by omega))
  have h1 : DataW.trod enc Try.prog w base spare held n 3 ((cs.drop 1).take (Try.prog.cellsOf 3)) = some ys[1] := (hf 1 _ rfl).trans (List.getElem?_eq_getElem (show 1 < ys.length by omega))
  have h2 : DataW.trod enc Try.prog w base spare held n 26 ((cs.drop 2).take (Try.prog.cellsOf 26)) = some ys[2] := (hf 2 _ rfl).trans (List.getElem?_eq_getElem (show 2 < ys.length by omega))
  obtain ⟨x0, e0, _⟩ := one_int Try.underlying3 c3 h0
  obtain ⟨x1, e1, _⟩ := one_int Try.underlying3 c3 h1
  obtain ⟨M, cm, l, e2, hlc, hM⟩ := bools_opened h2
  refine ⟨x0, x1, M, cm, l, ?_, hlc, hM⟩
  rw [c26] at e2
  clear h h0 h1 h2 hf hl
  obtain ⟨a, cs, rfl⟩ := List.exists_cons_of_length_pos (show 0 < cs.length by omega)
  obtain ⟨b, cs, rfl⟩ := List.exists_cons_of_length_pos (show 0 < cs.length by simp only [List.length_cons] at hcs; omega)
  obtain ⟨c, cs, rfl⟩ := List.exists_cons_of_length_pos (show 0 < cs.length by simp only [List.length_cons] at hcs; omega)
  obtain rfl : cs = [] := List.length_eq_zero_iff.1 (by simp only [List.length_cons] at hcs; omega)
  have g0 : a = .int .i64 x0 := Option.some.inj e0
  have g1 : b = .int .i64 x1 := Option.some.inj e1
  have g2 : c = .slice M l.length cm := (List.cons.inj e2).1
  rw [g0, g1, g2]
end Go.Proofs.Ytffmhpfdfcpniaa.T
