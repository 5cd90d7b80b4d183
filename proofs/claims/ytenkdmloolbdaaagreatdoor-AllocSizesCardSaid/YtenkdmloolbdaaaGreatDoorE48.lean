import Derived.Test.YtenkdmloolbdaaaGreatDoorE44
import Derived.OpenShut
import Derived.Deep.Slices
import Derived.Deep.Strs
import Derived.ChangeArms
import Derived.ChangeSlices
import Derived.ChangeSame
import Derived.WideKeyPair
set_option linter.unusedVariables false
set_option linter.unusedSimpArgs false
set_option maxHeartbeats 8000000
set_option maxRecDepth 100000
section
namespace Go.Proofs.YtenkdmloolbdaaaGreatDoor.T
open Go.RowKit Go.Proofs.YtenkdmloolbdaaaGreatDoorW.PrintWords Go.Proofs.YtenkdmloolbdaaaGreatDoorW.PrintLast Go.Proofs.YtenkdmloolbdaaaGreatDoorW.PrintMore
open Go.ChangeShapes Go.Deep
section
variable {H : Type} {enc : TypeId × Value → H} {w : World} {base : Nat} {spare : Nat → Bool} {held : Bool}
theorem len_2 {α : Type} (l : List α) (h : l.length = 2) : ∃ a b, l = [a, b] := by
 match l, h with
 | [a, b], _ => exact ⟨a, b, rfl⟩
theorem len_4 {α : Type} (l : List α) (h : l.length = 4) : ∃ a b c d, l = [a, b, c, d] := by
 match l, h with
 | [a, b, c, d], _ => exact ⟨a, b, c, d, rfl⟩
theorem len_8 {α : Type} (l : List α) (h : l.length = 8) : ∃ a b c d e f g i, l = [a, b, c, d, e, f, g, i] := by
 match l, h with
 | [a, b, c, d, e, f, g, i], _ => exact ⟨a, b, c, d, e, f, g, i, rfl⟩
theorem row_opened {fuel : Nat} {cs : List Value} {y : DataW H × List MemPlace} {a b : Int} (hy : y.1 = .agg [.lit (.int .i64 a), .lit (.int .i64 b)]) (h : DataW.trod enc Tryz.prog w base spare held fuel 249 cs = some y) : cs = [.int .i64 a, .int .i64 b] := by
 obtain ⟨y0, y1, n, rfl, hl, h0, h1⟩ := trod_struct2 Tryz.underlying249 h
 have c1 : Tryz.prog.cellsOf 3 = 1 := by kernel_rfl
 have c2 : Tryz.prog.cellsOf 249 = 2 := by kernel_rfl
 rw [c2] at hl
 obtain ⟨u, v, rfl⟩ := len_2 cs hl
 obtain ⟨z0, hz0, e0, _⟩ := DataW.trod_int Tryz.underlying3 h0
 obtain ⟨z1, hz1, e1, _⟩ := DataW.trod_int Tryz.underlying3 h1
 rw [c1] at hz0 hz1
 simp at hz0 hz1
 rw [hz0, hz1]
 rw [e0, e1] at hy
 simp only [DataW.agg.injEq, List.cons.injEq, DataW.lit.injEq, Lit.int.injEq, and_true, true_and] at hy
 rw [hy.1, hy.2]
theorem glob_laid {cs : Array Value} {fuel : Nat} {p : List MemPlace} (hv : w.var? Tryz.prog "messuage/class.rows" = some cs)
 (hd : DataW.trod enc Tryz.prog w base spare held fuel 250 cs.toList = some (.agg [.agg [.lit (.int .i64 8), .lit (.int .i64 0)], .agg [.lit (.int .i64 16), .lit (.int .i64 0)], .agg [.lit (.int .i64 32), .lit (.int .i64 1)], .agg [.lit (.int .i64 64), .lit (.int .i64 2)]], p)) : GlobR w := by
 obtain ⟨xs, m, _, hx, hl, hxl, hi⟩ := DataW.trod_array Tryz.underlying250 hd
 have c2 : Tryz.prog.cellsOf 249 = 2 := by kernel_rfl
 have c8 : Tryz.prog.cellsOf 250 = 8 := by kernel_rfl
 rw [c8] at hl
 rw [c2] at hi
 obtain ⟨y0, y1, y2, y3, rfl⟩ := len_4 xs hxl
 simp only [Prod.mk.injEq, DataW.agg.injEq, List.map_cons, List.map_nil, List.cons.injEq, and_true] at hx
 obtain ⟨⟨e0, e1, e2, e3⟩, _⟩ := hx
 have r0 := row_opened e0.symm (hi 0 (by omega))
 have r1 := row_opened e1.symm (hi 1 (by omega))
 have r2 := row_opened e2.symm (hi 2 (by omega))
 have r3 := row_opened e3.symm (hi 3 (by omega))
 have hcs : cs.toList = [.int .i64 8, .int .i64 0, .int .i64 16, .int .i64 0, .int .i64 32, .int .i64 1, .int .i64 64, .int .i64 2] := by
  generalize cs.toList = L at hl r0 r1 r2 r3
  obtain ⟨a, b, c, d, e, f, g, h, rfl⟩ := len_8 L hl
  simp only [Nat.zero_mul, Nat.one_mul, List.drop_zero, List.take_succ_cons, List.take_zero, List.drop_succ_cons, List.cons.injEq, and_true, Nat.reduceMul] at r0 r1 r2 r3
  rw [r0.1, r0.2, r1.1, r1.2, r2.1, r2.2, r3.1, r3.2]
 have hg : Tryz.prog.globalNamed "messuage/class.rows" = some 0 := by kernel_rfl
 have hh : ∃ t fr, w.heap[0]? = some (.cells cs t fr) := by
  unfold World.var? at hv
  rw [hg] at hv
  simp only [Option.bind_some] at hv
  split at hv
  ·rename_i h
   simp at hv
   subst hv
   exact ⟨_, _, h⟩
  ·simp at hv
 obtain ⟨t, fr, hh⟩ := hh
 have hc : ∀ i v, cs.toList[i]? = some v → w.cell? ⟨0, i, none⟩ = some v := by
  intro i v h
  simp only [World.cell?, hh]
  simpa using h
 exact ⟨hc 0 _ (by rw [hcs]; rfl), hc 1 _ (by rw [hcs]; rfl), hc 2 _ (by rw [hcs]; rfl), hc 3 _ (by rw [hcs]; rfl), hc 4 _ (by rw [hcs]; rfl), hc 5 _ (by rw [hcs]; rfl), hc 6 _ (by rw [hcs]; rfl), hc 7 _ (by rw [hcs]; rfl)⟩
end
end Go.Proofs.YtenkdmloolbdaaaGreatDoor.T
end
