/- Printed by the kit for this seat, cut by cutp.py: functions as Lean functions, and that the code comes to them. -/
import Derived.Test.YtffmhpfdfcpniaaP3
namespace Go.Proofs.Ytffmhpfdfcpniaa.PH
open Go.RowKit Go.Proofs.YtffmhpfdfcpniaaW.PrintWords Go.Proofs.YtffmhpfdfcpniaaW.PrintLast Go.Proofs.YtffmhpfdfcpniaaW.PrintMore
attribute [local go_sem] max2_int min2_int max_two min_two max_three min_three max_four min_four   -- for this text's walks alone
set_option linter.unusedVariables false
set_option linter.unusedSimpArgs false

-- NOT PRINTED: function 20 (messuagelaw11_tame)

/-! ### nodeset_All: function 28 -/
def nodeset_All.f (a0 : Int) : Option (Int × Int) := if a0 < 0 then (some (0, 3)) else (if a0 > 8 then (some (0, 3)) else (if 0 ≤ a0 then (some (((shl .u8 1 a0) - 1) % 256, 0)) else (none)))
set_option maxHeartbeats 8000000 in
set_option maxRecDepth 100000 in
theorem nodeset_All.calls (a0 : Int) (r1 : Int) (r2 : Int) (w : World) (h : nodeset_All.f a0 = some (r1, r2)) :
    Calls Try.prog 28 #[.int .i64 a0] w fun e w' => e = .returned (.tuple #[.int .u8 r1, .int .i64 r2]) ∧ Drawn0 w w' := by
  have H : (if a0 < 0 then (some (0, 3)) else (if a0 > 8 then (some (0, 3)) else (if 0 ≤ a0 then (some (((shl .u8 1 a0) - 1) % 256, 0)) else (none)))) = some (r1, r2) := h
  clear h
  by_cases c2 : a0 < 0
  · rw [if_pos c2] at H
    have c2b0 : decide (a0 < 0) = true := decide_eq_true c2
    clear c2
    simp only [Option.some.injEq, Prod.mk.injEq] at H
    obtain ⟨rfl, rfl⟩ := H
    go_enter Try.func28, Try.ntmps28
    go_wp2
    go_ret2
    exact ⟨by first | rfl | (simp; done) | (simp [*]; done), by repeat (first | exact Drawn0.refl _ | apply Drawn0.step)⟩
  · rw [if_neg c2] at H
    have c2b0 : decide (a0 < 0) = false := decide_eq_false c2
    clear c2
    by_cases c3 : a0 > 8
    · rw [if_pos c3] at H
      have c3b0 : decide (8 < a0) = true := decide_eq_true c3
      clear c3
      simp only [Option.some.injEq, Prod.mk.injEq] at H
      obtain ⟨rfl, rfl⟩ := H
      go_enter Try.func28, Try.ntmps28
      go_wp2
      go_ret2
      exact ⟨by first | rfl | (simp; done) | (simp [*]; done), by repeat (first | exact Drawn0.refl _ | apply Drawn0.step)⟩
    · rw [if_neg c3] at H
      have c3b0 : decide (8 < a0) = false := decide_eq_false c3
      clear c3
      by_cases c4 : 0 ≤ a0
      · rw [if_pos c4] at H
        have c4b0 := eq_true c4
        have c4b1 : decide (0 ≤ a0) = true := decide_eq_true c4
        clear c4
        obtain ⟨ji5, hji5⟩ : ∃ j_ : Int, (shl .u8 1 a0) = j_ := ⟨_, rfl⟩
        replace H : (some (((ji5) - 1) % 256, 0)) = some (r1, r2) := by first | (rw [hji5] at H; exact H) | (simp only [hji5] at H ⊢; exact H)
        have hji5_ : (IntKind.u8.wrap (1 * 2 ^ min a0.toNat 8)) = ji5 := hji5
        have hji5z : a0 ≤ 8 → (IntKind.u8.wrap (1 * 2 ^ a0.toNat)) = ji5 := shl_small hji5
        have hji5u : (IntKind.u8.wrap (2 ^ min a0.toNat 8)) = ji5 := by have h_ := hji5_; rw [Int.one_mul] at h_; exact h_
        have hji5v : a0 ≤ 8 → (IntKind.u8.wrap (2 ^ a0.toNat)) = ji5 := fun hle_ => by have h_ := hji5z hle_; rw [Int.one_mul] at h_; exact h_
        simp only [Option.some.injEq, Prod.mk.injEq] at H
        obtain ⟨rfl, rfl⟩ := H
        go_enter Try.func28, Try.ntmps28
        go_wp2
        go_ret2
        exact ⟨by first | rfl | (simp; done) | (simp only [← hji5] <;> (first | rfl | simp)) | (simp [*]; done), by repeat (first | exact Drawn0.refl _ | apply Drawn0.step)⟩
      · rw [if_neg c4] at H
        exact absurd H (by simp)

/-! ### policy_sets: function 67 -/
def policy_sets.f (a0 : Int) (a1 : Int) : Option (Int) := (nodeset_All.f a1).bind fun bt122 => (if bt122.2 = 0 then (if a0 = 0 then (some 1) else (if (Go.bits .andNot .u8 a0 bt122.1) = 0 then (some 0) else (some 10))) else (some bt122.2))
set_option maxHeartbeats 8000000 in
set_option maxRecDepth 100000 in
theorem policy_sets.calls (a0 : Int) (a1 : Int) (r : Int) (w : World) (h : policy_sets.f a0 a1 = some r) :
    Calls Try.prog 67 #[.int .u8 a0, .int .i64 a1] w fun e w' => e = .returned (.int .i64 r) ∧ Drawn0 w w' := by
  have H : ((nodeset_All.f a1).bind fun bt122 => (if bt122.2 = 0 then (if a0 = 0 then (some 1) else (if (Go.bits .andNot .u8 a0 bt122.1) = 0 then (some 0) else (some 10))) else (some bt122.2))) = some r := h
  clear h
  replace H := Option.bind_eq_some_iff.mp H
  obtain ⟨⟨t122, t123⟩, A30, H⟩ := H
  replace H : (if t123 = 0 then (if a0 = 0 then (some 1) else (if (Go.bits .andNot .u8 a0 t122) = 0 then (some 0) else (some 10))) else (some t123)) = some r := H
  have A3 := Aside0.mk A30
  clear A30
  by_cases c4 : t123 = 0
  · rw [if_pos c4] at H
    have c4b0 : (t123 == 0) = true := beq_iff_eq.mpr c4
    have c4b1 : (t123 != 0) = false := bne_eq_false_iff_eq.mpr c4
    clear c4
    by_cases c5 : a0 = 0
    · rw [if_pos c5] at H
      have c5b0 : (a0 == 0) = true := beq_iff_eq.mpr c5
      have c5b1 : (a0 != 0) = false := bne_eq_false_iff_eq.mpr c5
      clear c5
      obtain rfl := Option.some.inj H
      go_enter Try.func67, Try.ntmps67
      go_wp2_with (first | ((with_reducible refine gate_callee (f := 28) rfl ?_); refine goesL_ (some 9) rfl rfl Try.func28 (by kernel_rfl) rfl #[.int .i64 a1] rfl (by (try simp only [List.map_toArray, List.map_cons, List.map_nil]); first | done | rfl | (simp only [List.length_drop, List.length_take]; rfl)) ?_; (with_reducible refine (nodeset_All.calls a1 t122 t123 _ A3.out).mono ?_); rintro e w' ⟨rfl, ⟨nd, rfl⟩⟩; refine ⟨_, rfl, ?_⟩))
      go_ret
      exact ⟨by first | rfl | (simp; done) | (simp [*]; done), by repeat (first | exact Drawn0.refl _ | apply Drawn0.step)⟩
    · rw [if_neg c5] at H
      have c5b0 : (a0 == 0) = false := beq_eq_false_iff_ne.mpr c5
      have c5b1 : (a0 != 0) = true := bne_iff_ne.mpr c5
      by_cases c6 : (Go.bits .andNot .u8 a0 t122) = 0
      · rw [if_pos c6] at H
        have c6b0 : ((Go.bits .andNot .u8 a0 t122) == 0) = true := beq_iff_eq.mpr c6
        have c6b1 : ((Go.bits .andNot .u8 a0 t122) != 0) = false := bne_eq_false_iff_eq.mpr c6
        clear c6
        obtain rfl := Option.some.inj H
        go_enter Try.func67, Try.ntmps67
        go_wp2_with (first | ((with_reducible refine gate_callee (f := 28) rfl ?_); refine goesL_ (some 9) rfl rfl Try.func28 (by kernel_rfl) rfl #[.int .i64 a1] rfl (by (try simp only [List.map_toArray, List.map_cons, List.map_nil]); first | done | rfl | (simp only [List.length_drop, List.length_take]; rfl)) ?_; (with_reducible refine (nodeset_All.calls a1 t122 t123 _ A3.out).mono ?_); rintro e w' ⟨rfl, ⟨nd, rfl⟩⟩; refine ⟨_, rfl, ?_⟩))
        go_ret
        exact ⟨by first | rfl | (simp; done) | (simp [*]; done), by repeat (first | exact Drawn0.refl _ | apply Drawn0.step)⟩
      · rw [if_neg c6] at H
        have c6b0 : ((Go.bits .andNot .u8 a0 t122) == 0) = false := beq_eq_false_iff_ne.mpr c6
        have c6b1 : ((Go.bits .andNot .u8 a0 t122) != 0) = true := bne_iff_ne.mpr c6
        obtain rfl := Option.some.inj H
        go_enter Try.func67, Try.ntmps67
        go_wp2_with (first | ((with_reducible refine gate_callee (f := 28) rfl ?_); refine goesL_ (some 9) rfl rfl Try.func28 (by kernel_rfl) rfl #[.int .i64 a1] rfl (by (try simp only [List.map_toArray, List.map_cons, List.map_nil]); first | done | rfl | (simp only [List.length_drop, List.length_take]; rfl)) ?_; (with_reducible refine (nodeset_All.calls a1 t122 t123 _ A3.out).mono ?_); rintro e w' ⟨rfl, ⟨nd, rfl⟩⟩; refine ⟨_, rfl, ?_⟩))
        go_ret
        exact ⟨by first | rfl | (simp; done) | (simp [*]; done), by repeat (first | exact Drawn0.refl _ | apply Drawn0.step)⟩
  · rw [if_neg c4] at H
    have c4b0 : (t123 == 0) = false := beq_eq_false_iff_ne.mpr c4
    have c4b1 : (t123 != 0) = true := bne_iff_ne.mpr c4
    obtain rfl := Option.some.inj H
    go_enter Try.func67, Try.ntmps67
    go_wp2_with (first | ((with_reducible refine gate_callee (f := 28) rfl ?_); refine goesL_ (some 9) rfl rfl Try.func28 (by kernel_rfl) rfl #[.int .i64 a1] rfl (by (try simp only [List.map_toArray, List.map_cons, List.map_nil]); first | done | rfl | (simp only [List.length_drop, List.length_take]; rfl)) ?_; (with_reducible refine (nodeset_All.calls a1 t122 t123 _ A3.out).mono ?_); rintro e w' ⟨rfl, ⟨nd, rfl⟩⟩; refine ⟨_, rfl, ?_⟩))
    go_ret
    exact ⟨by first | rfl | (simp; done) | (simp [*]; done), by repeat (first | exact Drawn0.refl _ | apply Drawn0.step)⟩

end Go.Proofs.Ytffmhpfdfcpniaa.PH
