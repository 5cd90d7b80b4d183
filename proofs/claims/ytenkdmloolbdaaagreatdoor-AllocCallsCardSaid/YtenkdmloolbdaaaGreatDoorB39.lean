/- Calls by CPUs and nodes that there aren't. -/
import Derived.Test.YtenkdmloolbdaaaGreatDoorB35
section
namespace Go.Proofs.YtenkdmloolbdaaaGreatDoor.T
open Go.RowKit Go.Maps Go.WideShapes Go.Proofs.YtenkdmloolbdaaaGreatDoorW.PrintWords Go.Proofs.YtenkdmloolbdaaaGreatDoorW.PrintLast Go.Proofs.YtenkdmloolbdaaaGreatDoorW.PrintMore
set_option linter.unusedVariables false
set_option linter.unusedSimpArgs false
set_option maxHeartbeats 2000000 in
set_option maxRecDepth 100000 in
theorem malloc_nocpu (κ : Kol) (m : Nat) (a : Ad) (s : St) (j n : Int) (hj : j < 0 ∨ (s.cpus.length : Int) ≤ j) (w : World) (h : MachK κ w m a s) :
    Calls Tryz.prog 21 #[.pointer (some ⟨m, 0, none⟩), .int .i64 j, .int .i64 n] w fun e w' => e = .returned (.tuple #[.int .i64 0, .int .i64 11]) ∧ w' = w := by
  have HC := Aside0.mk (cpu_none κ m a s j hj w h)
  clear h hj
  go_enter Tryz.func21, Tryz.ntmps21
  go_wp2_with (go_at_call 61; (with_reducible refine HC.out.mono ?_); rintro e_ w1 ⟨rfl, rfl⟩)
  go_ret2
  exact ⟨rfl, rfl⟩
set_option maxHeartbeats 2000000 in
set_option maxRecDepth 100000 in
theorem reach_nocpu (κ : Kol) (m : Nat) (a : Ad) (s : St) (j x o n : Int) (hj : j < 0 ∨ (s.cpus.length : Int) ≤ j) (w : World) (h : MachK κ w m a s) :
    Calls Tryz.prog 65 #[.pointer (some ⟨m, 0, none⟩), .int .i64 j, .int .i64 x, .int .i64 o, .int .i64 n] w fun e w' => e = .returned (.int .i64 11) ∧ w' = w := by
  have HC := Aside0.mk (cpu_none κ m a s j hj w h)
  clear h hj
  go_enter Tryz.func65, Tryz.ntmps65
  go_wp2_with (go_at_call 61; (with_reducible refine HC.out.mono ?_); rintro e_ w1 ⟨rfl, rfl⟩)
  go_ret
  exact ⟨rfl, rfl⟩
set_option maxHeartbeats 2000000 in
set_option maxRecDepth 100000 in
theorem read_nocpu (κ : Kol) (m : Nat) (a : Ad) (s : St) (j x o n : Int) (hj : j < 0 ∨ (s.cpus.length : Int) ≤ j) (w : World) (h : MachK κ w m a s) :
    Calls Tryz.prog 24 #[.pointer (some ⟨m, 0, none⟩), .int .i64 j, .int .i64 x, .int .i64 o, .int .i64 n] w fun e w' => e = .returned (.tuple #[.slice none 0 0, .int .i64 11]) ∧ w' = w := by
  have HC := Aside0.mk (reach_nocpu κ m a s j x o n hj w h)
  clear h hj
  go_enter Tryz.func24, Tryz.ntmps24
  go_wp2_with (go_at_call 65; (with_reducible refine HC.out.mono ?_); rintro e_ w1 ⟨rfl, rfl⟩)
  go_ret2
  exact ⟨rfl, rfl⟩
set_option maxHeartbeats 2000000 in
set_option maxRecDepth 100000 in
theorem write_nocpu (κ : Kol) (m : Nat) (a : Ad) (s : St) (j x o : Int) (B : Option Addr) (n cb : Nat) (hn : n ≤ 1000000) (hj : j < 0 ∨ (s.cpus.length : Int) ≤ j) (w : World) (h : MachK κ w m a s) :
    Calls Tryz.prog 23 #[.pointer (some ⟨m, 0, none⟩), .int .i64 j, .int .i64 x, .int .i64 o, .slice B n cb] w fun e w' => e = .returned (.int .i64 11) ∧ w' = w := by
  have HC := Aside0.mk (reach_nocpu κ m a s j x o n hj w h)
  clear h hj
  go_enter Tryz.func23, Tryz.ntmps23
  go_wp2_with (go_at_call 65; (with_reducible refine HC.out.mono ?_); rintro e_ w1 ⟨rfl, rfl⟩)
  go_ret
  exact ⟨rfl, rfl⟩
set_option maxHeartbeats 2000000 in
set_option maxRecDepth 100000 in
theorem free_nocpu (κ : Kol) (m : Nat) (a : Ad) (s : St) (j x : Int) (hj : j < 0 ∨ (s.cpus.length : Int) ≤ j) (w : World) (h : MachK κ w m a s) :
    Calls Tryz.prog 43 #[.pointer (some ⟨m, 0, none⟩), .int .i64 j, .int .i64 x] w fun e w' => e = .returned (.int .i64 11) ∧ w' = w := by
  have HC := Aside0.mk (cpu_none κ m a s j hj w h)
  clear h hj
  go_enter Tryz.func43, Tryz.ntmps43
  go_wp2_with (go_at_call 61; (with_reducible refine HC.out.mono ?_); rintro e_ w1 ⟨rfl, rfl⟩)
  go_ret
  exact ⟨rfl, rfl⟩
set_option maxHeartbeats 2000000 in
set_option maxRecDepth 100000 in
theorem flush_nocpu (κ : Kol) (m : Nat) (a : Ad) (s : St) (j : Int) (hj : j < 0 ∨ (s.cpus.length : Int) ≤ j) (w : World) (h : MachK κ w m a s) :
    Calls Tryz.prog 42 #[.pointer (some ⟨m, 0, none⟩), .int .i64 j] w fun e w' => e = .returned (.tuple #[.int .i64 0, .int .i64 11]) ∧ w' = w := by
  have HC := Aside0.mk (cpu_none κ m a s j hj w h)
  clear h hj
  go_enter Tryz.func42, Tryz.ntmps42
  go_wp2_with (go_at_call 61; (with_reducible refine HC.out.mono ?_); rintro e_ w1 ⟨rfl, rfl⟩)
  go_ret2
  exact ⟨rfl, rfl⟩
set_option maxHeartbeats 2000000 in
set_option maxRecDepth 100000 in
theorem setpol_nocpu (κ : Kol) (m : Nat) (a : Ad) (s : St) (j po ps pn : Int) (hj : j < 0 ∨ (s.cpus.length : Int) ≤ j) (w : World) (h : MachK κ w m a s) :
    Calls Tryz.prog 44 #[.pointer (some ⟨m, 0, none⟩), .int .i64 j, .agg #[.int .i64 po, .int .u8 ps, .int .i64 pn]] w fun e w' => e = .returned (.int .i64 11) ∧ RowKit.Below w.heap.size w w' := by
  have hb := below_alloc (RowKit.Below.refl w.heap.size w) (.cells #[.int .i64 po, .int .u8 ps, .int .i64 pn] 40)
  have HC := Aside0.mk (cpu_none κ m a s j hj _ (h.below hb))
  have HB := Aside0.mk hb
  clear h hj hb
  go_enter Tryz.func44, Tryz.ntmps44
  go_wp2_with (go_at_call 61; (with_reducible refine HC.out.mono ?_); rintro e_ w1 ⟨rfl, rfl⟩)
  go_ret
  exact ⟨rfl, HB.out⟩
set_option maxHeartbeats 2000000 in
set_option maxRecDepth 100000 in
theorem drain_nonode (κ : Kol) (m : Nat) (a : Ad) (s : St) (j : Int) (hj : j < 0 ∨ (s.qs.length : Int) ≤ j) (w : World) (h : MachK κ w m a s) :
    Calls Tryz.prog 25 #[.pointer (some ⟨m, 0, none⟩), .int .i64 j] w fun e w' => e = .returned (.tuple #[.int .i64 0, .int .i64 10]) ∧ w' = w := by
  obtain ⟨hv, hl, hq⟩ := h.qs
  obtain ⟨A, c, e1, hle, hC⟩ := hv.reads
  have c10 := h.c10
  rw [e1, hl] at c10
  have hj8 := h.hqs
  by_cases hneg : j < 0
  · have d0 : decide (j < 0) = true := decide_eq_true hneg
    clear h hv hl hle hj e1 hq hC
    go_enter Tryz.func25, Tryz.ntmps25
    go_wp2_with fail
    go_ret2
    exact ⟨rfl, rfl⟩
  · have d0 : decide (j < 0) = false := decide_eq_false hneg
    have d1 : decide ((s.qs.length : Int) ≤ j) = true := decide_eq_true (by omega)
    clear h hv hl hle hj e1 hq hC
    go_enter Tryz.func25, Tryz.ntmps25
    go_wp2_with fail
    go_ret2
    exact ⟨rfl, rfl⟩
end Go.Proofs.YtenkdmloolbdaaaGreatDoor.T
end
