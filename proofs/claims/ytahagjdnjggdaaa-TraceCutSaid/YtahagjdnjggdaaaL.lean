/- The walk of trace.take where the bytes hold no whole step: nothing is told. -/
import Derived.Test.YtahagjdnjggdaaaB
import Derived.Outline
namespace Go.Proofs.Ytahagjdnjggdaaa.T
open Go.RowKit Go.Proofs.YtahagjdnjggdaaaW.PrintWords Go.Proofs.YtahagjdnjggdaaaW.PrintLast Go.Proofs.YtahagjdnjggdaaaW.PrintMore
set_option linter.unusedVariables false
set_option linter.unusedSimpArgs false
def Nothing19 (w : World) (e : Ending) (w' : World) : Prop := e = .returned (.tuple #[.agg #[.int .i64 0, .int .i64 0, .int .i64 0, .int .i64 0, .int .i64 0, .slice none 0 0, .int .i64 0, .int .u8 0, .int .i64 0, .bool false], .slice none 0 0, .bool false]) ∧ Below w.heap.size w w'

set_option maxHeartbeats 1000000 in
set_option maxRecDepth 100000 in
theorem take_short (A : Option Addr) (cp len : Nat) (w : World) (h : len < 12) :
    Calls Try.prog 19 #[.slice A len cp] w fun e w' => Nothing19 w e w' := by
  have hl12 : (len : Int) < 12 := by omega
  go_enter Try.func19, Try.ntmps19
  go_wp2
  exact bodyPost_ret (v := .tuple #[.agg #[.int .i64 0, .int .i64 0, .int .i64 0, .int .i64 0, .int .i64 0, .slice none 0 0, .int .i64 0, .int .u8 0, .int .i64 0, .bool false], .slice none 0 0, .bool false]) (by simp [results, Try.results19, go_sem]) rfl ⟨rfl, by (repeat (first | with_reducible exact Below.refl _ _ | with_reducible apply below_alloc | with_reducible apply pw_below_drewN | with_reducible apply below_drew1 | with_reducible apply below_drew | (with_reducible refine below_set ?_ ?hh; (case hh => omega))))⟩
set_option maxHeartbeats 1000000 in
set_option maxRecDepth 100000 in
theorem take_cut (b o cp len : Nat) (n : Int) (w : World) (h : 12 ≤ len) (hn : 0 ≤ n) (hn2 : n ≤ 255) (h2 : len < 12 + n) (c11 : w.cell? ⟨b, o + 11, none⟩ = some (.int .u8 n)) :
    Calls Try.prog 19 #[.slice (some ⟨b, o, none⟩) len cp] w fun e w' => Nothing19 w e w' := by
  have hl12 : ¬ (len : Int) < 12 := by omega
  have q11 : (11 : Int) < len := by omega
  have hl12b : (len : Int) < 12 + n := by omega
  have hbs : b < w.heap.size := World.block_lt_of_cell? w _ c11
  go_enter Try.func19, Try.ntmps19
  go_wp2
  exact bodyPost_ret (v := .tuple #[.agg #[.int .i64 0, .int .i64 0, .int .i64 0, .int .i64 0, .int .i64 0, .slice none 0 0, .int .i64 0, .int .u8 0, .int .i64 0, .bool false], .slice none 0 0, .bool false]) (by simp [results, Try.results19, go_sem]) rfl ⟨rfl, by (repeat (first | with_reducible exact Below.refl _ _ | with_reducible apply below_alloc | with_reducible apply pw_below_drewN | with_reducible apply below_drew1 | with_reducible apply below_drew | (with_reducible refine below_set ?_ ?hh; (case hh => omega))))⟩
end Go.Proofs.Ytahagjdnjggdaaa.T
