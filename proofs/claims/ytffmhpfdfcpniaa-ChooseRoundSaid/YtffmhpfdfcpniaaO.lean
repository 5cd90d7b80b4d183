/- The laws' small functions: tame, to. -/
import Derived.Test.YtffmhpfdfcpniaaN
namespace Go.Proofs.Ytffmhpfdfcpniaa.T
open Go.RowKit Go.Sort Go.Proofs.YtffmhpfdfcpniaaW.PrintWords Go.Proofs.YtffmhpfdfcpniaaW.PrintLast Go.Proofs.YtffmhpfdfcpniaaW.PrintMore Go.Proofs.Ytffmhpfdfcpniaa.PH
attribute [local go_sem] max2_int min2_int max_two min_two
set_option linter.unusedVariables false
set_option linter.unusedSimpArgs false
theorem alloc_two (w : World) (o o2 : Obj) : ((w.alloc o).alloc o2).heap[w.heap.size + 1]? = some o2 := by
  have := heap_alloc_new (w.alloc o) o2
  rw [World.size_alloc] at this
  exact this
set_option maxHeartbeats 1000000 in
set_option maxRecDepth 100000 in
theorem to_own (n f : Int) (A : Option Addr) (la ca : Nat) (B : Option Addr) (lb cb : Nat) (w : World) :
    Calls Try.prog 12 #[.agg #[.int .i64 n, .int .i64 f, .slice A la ca, .slice B lb cb]] w fun e w' => e = .returned (.agg #[.int .i64 n, .int .i64 f, .slice A la ca, .slice B lb cb]) ∧ RowKit.Below w.heap.size w w' := by
  go_enter Try.func12, Try.ntmps12
  go_wp2_with fail
  (refine bodyPost_ret (results_cell_row rfl _ _ (w.heap.size + 1) 33 #[.int .i64 n, .int .i64 f, .slice A la ca, .slice B lb cb] (0, 0) _ rfl (alloc_two _ _ _) Try.underlying33 rfl (by kernel_rfl)) rfl ?_; exact ⟨rfl, below_alloc (below_alloc (RowKit.Below.refl _ _) _) _⟩)
set_option maxHeartbeats 1000000 in
set_option maxRecDepth 100000 in
theorem tame_own (n f : Int) (A : Option Addr) (la ca : Nat) (B : Option Addr) (lb cb : Nat) (ma mb : Nat) (w : World) (hma : min la 20 = ma) (hmb : min lb 10 = mb) (hca : la ≤ ca) (hcb : lb ≤ cb) (hla : la ≤ 9223372036854775807) (hlb : lb ≤ 9223372036854775807) :
    Calls Try.prog 10 #[.agg #[.int .i64 n, .int .i64 f, .slice A la ca, .slice B lb cb]] w fun e w' => e = .returned (.agg #[.int .i64 n, .int .i64 f, .slice A ma ca, .slice B mb cb]) ∧ RowKit.Below w.heap.size w w' := by
  rcases Nat.lt_or_ge 20 la with hA | hA <;> rcases Nat.lt_or_ge 10 lb with hB | hB
  · obtain rfl : 20 = ma := by omega
    obtain rfl : 10 = mb := by omega
    have i1 : 20 < (la : Int) := by omega
    have i2 : 10 < (lb : Int) := by omega
    clear hma hmb
    go_enter Try.func10, Try.ntmps10
    go_wp2_with fail
    all_goals first | (exfalso; omega) | skip
    refine bodyPost_ret (results_cell_row rfl _ _ (w.heap.size + 1) 25 #[.int .i64 n, .int .i64 f, .slice A 20 ca, .slice B 10 cb] (0, 0) _ rfl (alloc_two _ _ _) Try.underlying25 rfl (by kernel_rfl)) rfl ?_
    exact ⟨rfl, below_alloc (below_alloc (RowKit.Below.refl _ _) _) _⟩
  · obtain rfl : 20 = ma := by omega
    obtain rfl : lb = mb := by omega
    have i1 : 20 < (la : Int) := by omega
    have i2 : (lb : Int) ≤ 10 := by omega
    clear hma hmb
    go_enter Try.func10, Try.ntmps10
    go_wp2_with fail
    all_goals first | (exfalso; omega) | skip
    refine bodyPost_ret (results_cell_row rfl _ _ (w.heap.size + 1) 25 #[.int .i64 n, .int .i64 f, .slice A 20 ca, .slice B lb cb] (0, 0) _ rfl (alloc_two _ _ _) Try.underlying25 rfl (by kernel_rfl)) rfl ?_
    exact ⟨rfl, below_alloc (below_alloc (RowKit.Below.refl _ _) _) _⟩
  · obtain rfl : la = ma := by omega
    obtain rfl : 10 = mb := by omega
    have i1 : (la : Int) ≤ 20 := by omega
    have i2 : 10 < (lb : Int) := by omega
    clear hma hmb
    go_enter Try.func10, Try.ntmps10
    go_wp2_with fail
    all_goals first | (exfalso; omega) | skip
    refine bodyPost_ret (results_cell_row rfl _ _ (w.heap.size + 1) 25 #[.int .i64 n, .int .i64 f, .slice A la ca, .slice B 10 cb] (0, 0) _ rfl (alloc_two _ _ _) Try.underlying25 rfl (by kernel_rfl)) rfl ?_
    exact ⟨rfl, below_alloc (below_alloc (RowKit.Below.refl _ _) _) _⟩
  · obtain rfl : la = ma := by omega
    obtain rfl : lb = mb := by omega
    have i1 : (la : Int) ≤ 20 := by omega
    have i2 : (lb : Int) ≤ 10 := by omega
    clear hma hmb
    go_enter Try.func10, Try.ntmps10
    go_wp2_with fail
    all_goals first | (exfalso; omega) | skip
    refine bodyPost_ret (results_cell_row rfl _ _ (w.heap.size + 1) 25 #[.int .i64 n, .int .i64 f, .slice A la ca, .slice B lb cb] (0, 0) _ rfl (alloc_two _ _ _) Try.underlying25 rfl (by kernel_rfl)) rfl ?_
    exact ⟨rfl, below_alloc (below_alloc (RowKit.Below.refl _ _) _) _⟩
end Go.Proofs.Ytffmhpfdfcpniaa.T
