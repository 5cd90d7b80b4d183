/- Printed by the kit for this seat, cut by cutz.py: functions as Lean functions, and that the code comes to them. Plain laws of machines: what a check answers; the reference's check comes to it. Grids in memory: New, at, Put. -/
import Derived.Test.YtenkdmloolbdaaaGreatDoorB23
import Derived.Test.YtenkdmloolbdaaaGreatDoorB25
import Derived.Test.YtenkdmloolbdaaaGreatDoorB24
section
namespace Go.Proofs.YtenkdmloolbdaaaGreatDoor.PH
open Go.RowKit Go.Proofs.YtenkdmloolbdaaaGreatDoorW.PrintWords Go.Proofs.YtenkdmloolbdaaaGreatDoorW.PrintLast Go.Proofs.YtenkdmloolbdaaaGreatDoorW.PrintMore
attribute [local go_sem] max2_int min2_int max_two min_two max_three min_three max_four min_four
set_option linter.unusedVariables false
set_option linter.unusedSimpArgs false
def nodeset_List.l0 : Nat → Int → List Int → Option (List Int)
  | 0, _, _ => none
  | k + 1, x0, x3 => if x0 = 0 then (some x3) else ((bits_TrailingZeros8.f x0).bind fun t156 => (if x3.length < 17592186044416 then (nodeset_List.l0 k (Go.bits .and .u8 x0 ((x0 - 1) % 256)) (x3 ++ [t156])) else (none)))
def nodeset_List.f (k : Nat) (a0 : Int) : Option (List Int) := nodeset_List.l0 k a0 ([] : List Int)
set_option maxHeartbeats 8000000 in
set_option maxRecDepth 100000 in
theorem nodeset_List.calls (k : Nat) (a0 : Int) (r : List Int) (w : World) (h : nodeset_List.f k a0 = some r) :
    Calls Tryz.prog 198 #[.int .u8 a0] w fun e w' => ∃ v0_ : Value, e = .returned (v0_) ∧ Kd.R (Kd.int .i64) 3 w' w.heap.size (fun _ => True) v0_ r ∧ Below w.heap.size w w' := by
  have HB := Aside0.mk (Below.refl w.heap.size w)
  have H : (nodeset_List.l0 k a0 ([] : List Int)) = some r := h
  clear h
  have H' := Aside0.mk H
  clear H
  go_enter Tryz.func198, Tryz.ntmps198
  go_wp2
  go_loopg [0, 3] k (fun kq v0 v3 w' => ∃ (x0_1 : Int) (x3_1 : List Int), v0 = .int .u8 x0_1 ∧ Aside0 (nodeset_List.l0 kq x0_1 x3_1 = some r) ∧ Aside0 (kq ≤ k) ∧ Aside0 (Kd.R (Kd.int .i64) 3 w' w.heap.size (fun _ => True) v3 x3_1) ∧ Aside0 (Below w.heap.size w w'))
  case atStart => exact ⟨(a0), (([] : List Int)), (by first | rfl | (simp; done) | (simp [*]; done)), H', ⟨Nat.le_refl _⟩, ⟨by first | exact Kd.R_nil _ _ _ _ _ | exact Kd.N_nil _ _ _ _ _ | exact Kd.V_nil _ _ _ _ _ | exact Kd.Q_nil _ _ _ _ _ | exact Kd.S_nil _ _ _ _ _⟩, ⟨by repeat (first | (with_reducible first | exact HB.out | apply below_alloc | apply pw_below_drewN | apply below_drew1) | exact HB.out)⟩⟩
  case round =>
    clear H'
    try clear c1
    obtain ⟨x0_1, x3_1, rfl, HA, HK1, HO_3, HB⟩ := hrel
    cases gk with
    | zero => exact absurd HA.out (by simp [nodeset_List.l0])
    | succ k1 =>
      have H := HA.out
      clear HA
      simp only [nodeset_List.l0] at H
      by_cases c2 : x0_1 = 0
      · rw [if_pos c2] at H
        have c2b0 : (x0_1 == 0) = true := beq_iff_eq.mpr c2
        have c2b1 : (x0_1 != 0) = false := bne_eq_false_iff_eq.mpr c2
        clear c2
        obtain rfl := Option.some.inj H
        go_wp2
        go_ret
        exact ⟨_, by first | rfl | (simp [errW_none, errW_some] <;> rfl) | (simp [*, errW_none, errW_some] <;> rfl), by (with_reducible repeat (first | apply Kd.R_alloc | apply Kd.R_drewN | apply Kd.R_drew)); exact HO_3.out, by repeat (first | (with_reducible first | exact HB.out | apply below_alloc | apply pw_below_drewN | apply below_drew1) | exact HB.out)⟩
      · rw [if_neg c2] at H
        have c2b0 : (x0_1 == 0) = false := beq_eq_false_iff_ne.mpr c2
        have c2b1 : (x0_1 != 0) = true := bne_iff_ne.mpr c2
        replace H := Option.bind_eq_some_iff.mp H
        obtain ⟨t156, A30, H⟩ := H
        replace H : (if x3_1.length < 17592186044416 then (nodeset_List.l0 k1 (Go.bits .and .u8 x0_1 ((x0_1 - 1) % 256)) (x3_1 ++ [t156])) else (none)) = some r := H
        have A3 := Aside0.mk A30
        clear A30
        by_cases c4 : x3_1.length < 17592186044416
        · rw [if_pos c4] at H
          have LMc4 := Aside0.mk c4
          clear c4
          obtain ⟨y157, hy157⟩ : ∃ y_ : List Int, y_ = (x3_1 ++ [t156]) := ⟨_, rfl⟩
          replace H : (nodeset_List.l0 k1 (Go.bits .and .u8 x0_1 ((x0_1 - 1) % 256)) y157) = some r := by first | (rw [hy157]; with_reducible exact H) | (have H2_ := (Option.bind_some _ _).symm.trans H; rw [hy157]; with_reducible exact H2_) | (have H2_ := (Option.bind_some _ _).symm.trans H; with_reducible exact H2_) | with_reducible exact H | (rw [hy157]; exact H) | exact H
          have Ny157 := Aside0.mk hy157
          clear hy157
          have H' := Aside0.mk H
          clear H
          go_wp2_with (first | ((with_reducible refine gate_callee (f := 223) rfl ?_); refine goesL_ (some 12) rfl rfl Tryz.func223 (by kernel_rfl) rfl #[.int .u8 x0_1] rfl (by (try simp only [List.map_toArray, List.map_cons, List.map_nil]); first | done | rfl | (simp only [List.length_drop, List.length_take]; rfl)) ?_; (with_reducible refine (bits_TrailingZeros8.calls x0_1 t156 _ A3.out).mono ?_); rintro e w' ⟨rfl, ⟨nd, rfl⟩⟩; refine ⟨_, rfl, ?_⟩) | ((with_reducible refine gate_builtin (b := .append) (xs := #[.tmp 10, .tmp 13]) rfl ?_); at_builtin; refine Kd.R_append (Kd.int .i64) (w0 := w) w.heap.size rfl (.tmp 10) (.tmp 13) 34 3 (.int .i64 0) 8 rfl Tryz.underlying34 info3 rfl (by decide) (by omega) u3 x3_1 t156 [.int .i64 t156] (fun _ => True) (fun _ => False) rfl rfl ?aP (fun _ hk => hk.elim) ?aF ?aO ?aB ?aS ?aL ?_; (case aP => exact rfl); (case aB => exact (by repeat (first | (with_reducible first | exact HB.out | apply below_alloc | apply pw_below_drewN | apply below_drew1) | exact HB.out))); (case aF => exact (fun _ _ => trivial)); (case aO => exact (by (with_reducible repeat (first | apply Kd.R_alloc | apply Kd.R_drewN | apply Kd.R_drew)); exact HO_3.out)); (case aS => exact (below_size (by repeat (first | (with_reducible first | exact HB.out | apply below_alloc | apply pw_below_drewN | apply below_drew1) | exact HB.out)))); (case aL => have := LMc4.out; omega); intro v158 w5 ho hb hg hat; rw [← Ny157.out] at ho; have n0_ := Aside0.mk (hb); have n1_ := Aside0.mk (ho); clear HB; clear HO_3; have HB := n0_; have HO159 := n1_; clear n0_ n1_; clear ho hb hg hat))
          go_roundg k1
          case measure => have := HK1.out; omega
          case rel => exact ⟨(Go.bits .and .u8 x0_1 ((x0_1 - 1) % 256)), (y157), (by first | rfl | (simp; done) | (simp [*]; done)), H', ⟨by have := HK1.out; omega⟩, ⟨by (with_reducible repeat (first | apply Kd.R_alloc | apply Kd.R_drewN | apply Kd.R_drew)); exact HO159.out⟩, ⟨by repeat (first | (with_reducible first | exact HB.out | apply below_alloc | apply pw_below_drewN | apply below_drew1) | exact HB.out)⟩⟩
        · rw [if_neg c4] at H
          exact absurd H (by simp)
def nodeset_Next.l0 : Nat → Int → List Int → List Int → Int → Int → Option (Int × Bool)
  | 0, _, _, _, _, _ => none
  | k + 1, x1, x6, x11, x12, x13 => if x13 < x12 then (if 0 ≤ x13 then (if x13 < (x11.length : Int) then (if (rd x11 x13) > x1 then (some (rd x11 x13, true)) else (nodeset_Next.l0 k x1 x6 x11 x12 (wrap64 (x13 + 1)))) else (none)) else (none)) else (if (x6.length : Int) = 0 then (some (0, false)) else (if 0 < (x6.length : Int) then (some (rd x6 0, true)) else (none)))
def nodeset_Next.f (k : Nat) (a0 : Int) (a1 : Int) : Option (Int × Bool) := (nodeset_List.f k a0).bind fun t160 => (nodeset_Next.l0 k a1 t160 t160 (t160.length : Int) 0)
set_option maxHeartbeats 8000000 in
set_option maxRecDepth 100000 in
theorem nodeset_Next.calls (k : Nat) (a0 : Int) (a1 : Int) (r1 : Int) (r2 : Bool) (w : World) (h : nodeset_Next.f k a0 a1 = some (r1, r2)) :
    Calls Tryz.prog 161 #[.int .u8 a0, .int .i64 a1] w fun e w' => e = .returned (.tuple #[.int .i64 r1, .bool r2]) ∧ Below w.heap.size w w' := by
  have HB := Aside0.mk (Below.refl w.heap.size w)
  have H : ((nodeset_List.f k a0).bind fun t160 => (nodeset_Next.l0 k a1 t160 t160 (t160.length : Int) 0)) = some (r1, r2) := h
  clear h
  replace H := Option.bind_eq_some_iff.mp H
  obtain ⟨t160, A30, H⟩ := H
  replace H : (nodeset_Next.l0 k a1 t160 t160 (t160.length : Int) 0) = some (r1, r2) := H
  have A3 := Aside0.mk A30
  clear A30
  have H' := Aside0.mk H
  clear H
  go_enter Tryz.func161, Tryz.ntmps161
  go_wp2_with (first | ((with_reducible refine gate_callee (f := 198) rfl ?_); refine goesL_ (some 10) rfl rfl Tryz.func198 (by kernel_rfl) rfl #[.int .u8 a0] rfl (by (try simp only [List.map_toArray, List.map_cons, List.map_nil]); first | done | rfl | (simp only [List.length_drop, List.length_take]; rfl)) ?_; (with_reducible refine (nodeset_List.calls k a0 t160 _ A3.out).mono ?_); rintro e w4 ⟨v161, rfl, ho0, hb⟩; refine ⟨_, rfl, ?_⟩; have n0_ := Aside0.mk (Kd.R_lower ho0 (below_size (by repeat (first | (with_reducible first | exact HB.out | apply below_alloc | apply pw_below_drewN | apply below_drew1) | exact HB.out)))); have n1_ := Aside0.mk (below_step (by repeat (first | (with_reducible first | exact HB.out | apply below_alloc | apply pw_below_drewN | apply below_drew1) | exact HB.out)) hb); clear HB; have HO162 := n0_; have HB := n1_; clear n0_ n1_; (try clear hb); (try clear hb2); (try clear hk); (try clear hi); (try clear ho0); obtain ⟨Ao5, co5, eo5⟩ := Kd.R_slice HO162.out; subst eo5))
  go_loopg [13] k (fun kq v13 w' => ∃ (x13_1 : Int), v13 = .int .i64 x13_1 ∧ Aside0 (nodeset_Next.l0 kq a1 t160 t160 (t160.length : Int) x13_1 = some (r1, r2)) ∧ Aside0 (kq ≤ k) ∧ Aside0 (Kd.R (Kd.int .i64) 3 w' w.heap.size (fun _ => True) (.slice Ao5 t160.length co5) t160) ∧ Aside0 (Kd.R (Kd.int .i64) 3 w' w.heap.size (fun _ => True) (.slice Ao5 t160.length co5) t160) ∧ Aside0 (Below w.heap.size w w'))
  case atStart => exact ⟨(0), (by first | rfl | (simp; done) | (simp [*]; done)), H', ⟨Nat.le_refl _⟩, ⟨by (with_reducible repeat (first | apply Kd.R_alloc | apply Kd.R_drewN | apply Kd.R_drew)); exact HO162.out⟩, ⟨by (with_reducible repeat (first | apply Kd.R_alloc | apply Kd.R_drewN | apply Kd.R_drew)); exact HO162.out⟩, ⟨by repeat (first | (with_reducible first | exact HB.out | apply below_alloc | apply pw_below_drewN | apply below_drew1) | exact HB.out)⟩⟩
  case round =>
    clear H'
    try clear c1
    try clear p2
    obtain ⟨x13_1, rfl, HA, HK1, HO_6, HO_11, HB⟩ := hrel
    cases gk with
    | zero => exact absurd HA.out (by simp [nodeset_Next.l0])
    | succ k1 =>
      have H := HA.out
      clear HA
      simp only [nodeset_Next.l0] at H
      by_cases c6 : x13_1 < (t160.length : Int)
      · rw [if_pos c6] at H
        have c6b0 : decide (x13_1 < (t160.length : Int)) = true := decide_eq_true c6
        clear c6
        by_cases c7 : 0 ≤ x13_1
        · rw [if_pos c7] at H
          have c7b0 : decide (0 ≤ x13_1) = true := decide_eq_true c7
          clear c7
          by_cases c8 : x13_1 < (t160.length : Int)
          · rw [if_pos c8] at H
            have c8b0 : decide (x13_1 < (t160.length : Int)) = true := decide_eq_true c8
            clear c8
            by_cases c9 : (rd t160 x13_1) > a1
            · rw [if_pos c9] at H
              have c9b0 : decide (a1 < (rd t160 x13_1)) = true := decide_eq_true c9
              clear c9
              simp only [Option.some.injEq, Prod.mk.injEq] at H
              obtain ⟨rfl, rfl⟩ := H
              have p163 : 0 ≤ (x13_1 : Int) := of_decide_eq_true (by first | (with_reducible assumption) | assumption)
              have q163 : x13_1 < (t160.length : Int) := of_decide_eq_true (by first | (with_reducible assumption) | assumption)
              obtain ⟨ad163, e163, hx163_0⟩ := Kd.at_int (Kd.R_reads' HO_11.out).2.2 x13_1 p163 q163
              cases e163
              replace p163 := eq_true p163
              replace q163 := eq_true q163
              go_wp2
              go_ret2
              exact ⟨by first | rfl | (simp [errW_none, errW_some] <;> rfl) | (simp [*, errW_none, errW_some] <;> rfl), by repeat (first | (with_reducible first | exact HB.out | apply below_alloc | apply pw_below_drewN | apply below_drew1) | exact HB.out)⟩
            · rw [if_neg c9] at H
              have c9b0 : decide (a1 < (rd t160 x13_1)) = false := decide_eq_false c9
              clear c9
              have H' := Aside0.mk H
              clear H
              have p163 : 0 ≤ (x13_1 : Int) := of_decide_eq_true (by first | (with_reducible assumption) | assumption)
              have q163 : x13_1 < (t160.length : Int) := of_decide_eq_true (by first | (with_reducible assumption) | assumption)
              obtain ⟨ad163, e163, hx163_0⟩ := Kd.at_int (Kd.R_reads' HO_11.out).2.2 x13_1 p163 q163
              cases e163
              replace p163 := eq_true p163
              replace q163 := eq_true q163
              go_wp2
              go_roundg k1
              case measure => have := HK1.out; omega
              case rel => exact ⟨(wrap64 (x13_1 + 1)), (by first | rfl | (simp; done) | (simp [*]; done)), H', ⟨by have := HK1.out; omega⟩, ⟨by (with_reducible repeat (first | apply Kd.R_alloc | apply Kd.R_drewN | apply Kd.R_drew)); exact HO_6.out⟩, ⟨by (with_reducible repeat (first | apply Kd.R_alloc | apply Kd.R_drewN | apply Kd.R_drew)); exact HO_11.out⟩, ⟨by repeat (first | (with_reducible first | exact HB.out | apply below_alloc | apply pw_below_drewN | apply below_drew1) | exact HB.out)⟩⟩
          · rw [if_neg c8] at H
            exact absurd H (by simp)
        · rw [if_neg c7] at H
          exact absurd H (by simp)
      · rw [if_neg c6] at H
        have c6b0 : decide (x13_1 < (t160.length : Int)) = false := decide_eq_false c6
        clear c6
        by_cases c10 : (t160.length : Int) = 0
        · rw [if_pos c10] at H
          have c10b0 : ((t160.length : Int) == 0) = true := beq_iff_eq.mpr c10
          have c10b1 : ((t160.length : Int) != 0) = false := bne_eq_false_iff_eq.mpr c10
          clear c10
          simp only [Option.some.injEq, Prod.mk.injEq] at H
          obtain ⟨rfl, rfl⟩ := H
          go_wp2
          go_ret2
          exact ⟨by first | rfl | (simp [errW_none, errW_some] <;> rfl) | (simp [*, errW_none, errW_some] <;> rfl), by repeat (first | (with_reducible first | exact HB.out | apply below_alloc | apply pw_below_drewN | apply below_drew1) | exact HB.out)⟩
        · rw [if_neg c10] at H
          have c10b0 : ((t160.length : Int) == 0) = false := beq_eq_false_iff_ne.mpr c10
          have c10b1 : ((t160.length : Int) != 0) = true := bne_iff_ne.mpr c10
          have c10b2 : ¬ (t160 = []) := fun h_ => c10 (by rw [h_]; rfl)
          by_cases c11 : 0 < (t160.length : Int)
          · rw [if_pos c11] at H
            have c11b0 : decide (0 < (t160.length : Int)) = true := decide_eq_true c11
            have c11b1 : decide (0 < t160.length) = true := decide_eq_true (by omega)
            clear c11
            simp only [Option.some.injEq, Prod.mk.injEq] at H
            obtain ⟨rfl, rfl⟩ := H
            have p164 : 0 ≤ (0 : Int) := (by omega)
            have q164 : 0 < (t160.length : Int) := of_decide_eq_true (by first | (with_reducible assumption) | assumption)
            obtain ⟨ad164, e164, hx164_0⟩ := Kd.at_int (Kd.R_reads' HO_6.out).2.2 0 p164 q164
            cases e164
            have qi164 : (0 < t160.length) = True := eq_true (by omega)
            (try rw [show ((0 : Int)).toNat = 0 from rfl] at hx164_0)
            (try rw [Addr.add_zero'] at hx164_0)
            replace p164 := eq_true p164
            replace q164 := eq_true q164
            go_wp2
            go_ret2
            exact ⟨by first | rfl | (simp [errW_none, errW_some] <;> rfl) | (simp [*, errW_none, errW_some] <;> rfl), by repeat (first | (with_reducible first | exact HB.out | apply below_alloc | apply pw_below_drewN | apply below_drew1) | exact HB.out)⟩
          · rw [if_neg c11] at H
            exact absurd H (by simp)
def policy_Start.j0 : Nat → Int → Int → Bool → Int → Int → Int → Option (Int × Int × Int)
  | 0, _, _, _, _, _, _ => none
  | k + 1, x2, x3, x26, x166000, x166001, x166002 => if x26 = true then (some (0, 0, 10)) else (if x166000 = 2 then ((nodeset_Next.f k x166001 x3).bind fun bt167 => (some (bt167.1, bt167.1, 0))) else (if x166000 = 3 then (some (x166002, x3, 0)) else (some (x2, x3, 0))))
def policy_Start.f (k : Nat) (a0_0 : Int) (a0_1 : Int) (a0_2 : Int) (a1 : Int) (a2 : Int) (a3 : Int) : Option (Int × Int × Int) := (policy_Check.f k a0_0 a0_1 a0_2 a1).bind fun t166 => (if t166 = 0 then (if a2 < 0 then (policy_Start.j0 k a2 a3 true a0_0 a0_1 a0_2) else (policy_Start.j0 k a2 a3 (decide (a2 ≥ a1)) a0_0 a0_1 a0_2)) else (some (0, 0, t166)))
set_option maxHeartbeats 8000000 in
set_option maxRecDepth 100000 in
theorem policy_Start.calls (k : Nat) (a0_0 : Int) (a0_1 : Int) (a0_2 : Int) (a1 : Int) (a2 : Int) (a3 : Int) (r1 : Int) (r2 : Int) (r3 : Int) (w : World) (h : policy_Start.f k a0_0 a0_1 a0_2 a1 a2 a3 = some (r1, r2, r3)) :
    Calls Tryz.prog 110 #[.agg #[.int .i64 a0_0, .int .u8 a0_1, .int .i64 a0_2], .int .i64 a1, .int .i64 a2, .int .i64 a3] w fun e w' => e = .returned (.tuple #[.int .i64 r1, .int .i64 r2, .int .i64 r3]) ∧ Below w.heap.size w w' := by
  have hu40 := Tryz.underlying40
  have HB := Aside0.mk (Below.refl w.heap.size w)
  have H : ((policy_Check.f k a0_0 a0_1 a0_2 a1).bind fun t166 => (if t166 = 0 then (if a2 < 0 then (policy_Start.j0 k a2 a3 true a0_0 a0_1 a0_2) else (policy_Start.j0 k a2 a3 (decide (a2 ≥ a1)) a0_0 a0_1 a0_2)) else (some (0, 0, t166)))) = some (r1, r2, r3) := h
  clear h
  replace H := Option.bind_eq_some_iff.mp H
  obtain ⟨t166, A50, H⟩ := H
  replace H : (if t166 = 0 then (if a2 < 0 then (policy_Start.j0 k a2 a3 true a0_0 a0_1 a0_2) else (policy_Start.j0 k a2 a3 (decide (a2 ≥ a1)) a0_0 a0_1 a0_2)) else (some (0, 0, t166))) = some (r1, r2, r3) := H
  have A5 := Aside0.mk A50
  clear A50
  by_cases c6 : t166 = 0
  · rw [if_pos c6] at H
    have c6b0 : (t166 == 0) = true := beq_iff_eq.mpr c6
    have c6b1 : (t166 != 0) = false := bne_eq_false_iff_eq.mpr c6
    clear c6
    have HC7 := Aside0.mk H
    clear H
    go_enter Tryz.func110, Tryz.ntmps110
    go_upto_region 4 with (first | ((with_reducible refine gate_dst (N := 4) rfl ?_); refine box_event ?hg (N := 4) ?hd (cs := #[.int .i64 a0_0, .int .u8 a0_1, .int .i64 a0_2]) (t := 40) ?hr ?_; (case hd => rfl); (case hg => rfl); (case hr => first | (go_simp; done) | (go_simp; rfl)); intro gb165 hg w8 hbox hb; have n0_ := Aside0.mk (below_step (by repeat (first | (with_reducible first | exact HB.out | apply below_alloc | apply pw_below_drewN | apply below_drew1) | exact HB.out)) hb); have n1_ := Aside0.mk (hbox); have n2_ := Aside0.mk ((by rw [hg]; exact (below_size (by repeat (first | (with_reducible first | exact HB.out | apply below_alloc | apply pw_below_drewN | apply below_drew1) | exact HB.out))) : w.heap.size ≤ gb165)); have n3_ := Aside0.mk ((by rw [hg]; exact (below_size (by repeat (first | (with_reducible first | exact HB.out | apply below_alloc | apply pw_below_drewN | apply below_drew1) | exact HB.out))) : w.heap.size ≤ gb165)); clear HB; have HB := n0_; have BK165 := n1_; have GW165 := n2_; have GE165 := n3_; clear n0_ n1_ n2_ n3_; clear hb hbox hg; have hcz9_0 : w8.cell? ⟨gb165, 0, none⟩ = some (.int .i64 a0_0) := (blk_cell BK165.out 0).trans rfl; have hcz9_1 : w8.cell? ⟨gb165, 1, none⟩ = some (.int .u8 a0_1) := (blk_cell BK165.out 1).trans rfl; have hcz9_2 : w8.cell? ⟨gb165, 2, none⟩ = some (.int .i64 a0_2) := (blk_cell BK165.out 2).trans rfl; have hfz9_0 := blk_frozen BK165.out 0; have hfz9_1 := blk_frozen BK165.out 1; have hfz9_2 := blk_frozen BK165.out 2) | ((with_reducible refine gate_callee (f := 99) rfl ?_); refine goesL_ (some 16) rfl rfl Tryz.func99 (by kernel_rfl) rfl #[.agg #[.int .i64 a0_0, .int .u8 a0_1, .int .i64 a0_2], .int .i64 a1] rfl (by (try simp only [List.map_toArray, List.map_cons, List.map_nil]); first | done | rfl | (simp only [List.length_drop, List.length_take]; rfl)) ?_; (with_reducible refine (policy_Check.calls k a0_0 a0_1 a0_2 a1 t166 _ A5.out).mono ?_); rintro e w10 ⟨rfl, hb⟩; refine ⟨_, rfl, ?_⟩; have n0_ := Aside0.mk (blk_below (g := gb165) (o := .cells #[.int .i64 a0_0, .int .u8 a0_1, .int .i64 a0_2] 40 (0, 0)) (by (with_reducible repeat (first | refine blk_drewN ?_ _ | refine blk_drew ?_ | refine blk_alloc ?_ _)); exact BK165.out) hb); have n1_ := Aside0.mk (below_step (by repeat (first | (with_reducible first | exact HB.out | apply below_alloc | apply pw_below_drewN | apply below_drew1 | refine below_set ?_ GE165.out) | exact HB.out)) hb); clear BK165; clear HB; have BK165 := n0_; have HB := n1_; clear n0_ n1_; (try clear hb); (try clear hb2); (try clear hk); (try clear hi)))
    (try simp only [Act.put, List.setIfInBounds_toArray, List.set_cons_zero, List.set_cons_succ])
    go_cut [26] (fun v26 wc => ∃ (kq : Nat) (x26_6 : Bool), v26 = .bool x26_6 ∧ Aside0 (policy_Start.j0 kq a2 a3 x26_6 a0_0 a0_1 a0_2 = some (r1, r2, r3)) ∧ Aside0 (kq ≤ k) ∧ Aside0 (wc.heap[gb165]? = some (.cells #[.int .i64 a0_0, .int .u8 a0_1, .int .i64 a0_2] 40 (0, 0))) ∧ Aside0 (Below w.heap.size w wc))
    case first =>
      have H := HC7.out
      clear HC7
      by_cases c11 : a2 < 0
      · rw [if_pos c11] at H
        have c11b0 : decide (a2 < 0) = true := decide_eq_true c11
        clear c11
        (first | rw [c11b0] | (simp only [i64_w, i32_w]; rw [c11b0]) | skip)
        have H' := Aside0.mk H
        clear H
        go_wp2
        go_meet
        case rel => exact ⟨_, (true), (by first | rfl | (simp; done) | (simp [*]; done)), H', ⟨by first | omega | exact Nat.le_refl _⟩, ⟨by (with_reducible repeat (first | refine blk_drewN ?_ _ | refine blk_drew ?_ | refine blk_alloc ?_ _)); exact BK165.out⟩, ⟨by repeat (first | (with_reducible first | exact HB.out | apply below_alloc | apply pw_below_drewN | apply below_drew1 | refine below_set ?_ GE165.out) | exact HB.out)⟩⟩
      · rw [if_neg c11] at H
        have c11b0 : decide (a2 < 0) = false := decide_eq_false c11
        clear c11
        (first | rw [c11b0] | (simp only [i64_w, i32_w]; rw [c11b0]) | skip)
        have H' := Aside0.mk H
        clear H
        go_wp2
        go_meet
        case rel => exact ⟨_, (decide (a2 ≥ a1)), (by first | rfl | (simp; done) | (simp [*]; done)), H', ⟨by first | omega | exact Nat.le_refl _⟩, ⟨by (with_reducible repeat (first | refine blk_drewN ?_ _ | refine blk_drew ?_ | refine blk_alloc ?_ _)); exact BK165.out⟩, ⟨by repeat (first | (with_reducible first | exact HB.out | apply below_alloc | apply pw_below_drewN | apply below_drew1 | refine below_set ?_ GE165.out) | exact HB.out)⟩⟩
    case rest =>
      clear HC7
      try clear c1
      try clear p2
      try clear c6
      try clear c6b0
      try clear c6b1
      try clear c9
      try clear c11
      try clear c11b0
      try clear hcz9_0
      try clear hcz9_1
      try clear hcz9_2
      try clear hfz9_0
      try clear hfz9_1
      try clear hfz9_2
      obtain ⟨kq, x26_6, rfl, HA, HJ6, BK165, HB⟩ := hcut
      cases kq with
      | zero => exact absurd HA.out (by simp [policy_Start.j0])
      | succ kj6 =>
        have H := HA.out
        clear HA
        simp only [policy_Start.j0] at H
        by_cases c12 : x26_6 = true
        · subst c12
          have H1 : (some (0, 0, 10)) = some (r1, r2, r3) := by rw [if_pos rfl] at H; exact H
          clear H
          have H := H1
          clear H1
          simp only [Option.some.injEq, Prod.mk.injEq] at H
          obtain ⟨rfl, rfl, rfl⟩ := H
          go_wp2
          go_ret3
          exact ⟨by first | rfl | (simp [errW_none, errW_some] <;> rfl) | (simp [*, errW_none, errW_some] <;> rfl), by repeat (first | (with_reducible first | exact HB.out | apply below_alloc | apply pw_below_drewN | apply below_drew1 | refine below_set ?_ GE165.out) | exact HB.out)⟩
        · replace c12 := Bool.eq_false_iff.mpr c12
          subst c12
          have H1 : (if a0_0 = 2 then ((nodeset_Next.f kj6 a0_1 a3).bind fun bt167 => (some (bt167.1, bt167.1, 0))) else (if a0_0 = 3 then (some (a0_2, a3, 0)) else (some (a2, a3, 0)))) = some (r1, r2, r3) := by rw [if_neg (show ¬ (false = true) by decide)] at H; exact H
          clear H
          have H := H1
          clear H1
          by_cases c13 : a0_0 = 2
          · rw [if_pos c13] at H
            have c13b0 : (a0_0 == 2) = true := beq_iff_eq.mpr c13
            have c13b1 : (a0_0 != 2) = false := bne_eq_false_iff_eq.mpr c13
            clear c13
            replace H := Option.bind_eq_some_iff.mp H
            obtain ⟨⟨t167, t168⟩, A140, H⟩ := H
            replace H : (some (t167, t167, 0)) = some (r1, r2, r3) := H
            have A14 := Aside0.mk A140
            clear A140
            simp only [Option.some.injEq, Prod.mk.injEq] at H
            obtain ⟨rfl, rfl, rfl⟩ := H
            have hcz15_0 : wc.cell? ⟨gb165, 0, none⟩ = some (.int .i64 a0_0) := (blk_cell BK165.out 0).trans rfl
            have hcz15_1 : wc.cell? ⟨gb165, 1, none⟩ = some (.int .u8 a0_1) := (blk_cell BK165.out 1).trans rfl
            have hcz15_2 : wc.cell? ⟨gb165, 2, none⟩ = some (.int .i64 a0_2) := (blk_cell BK165.out 2).trans rfl
            have hfz15_0 := blk_frozen BK165.out 0
            have hfz15_1 := blk_frozen BK165.out 1
            have hfz15_2 := blk_frozen BK165.out 2
            go_wp2_with (first | ((with_reducible refine gate_callee (f := 161) rfl ?_); refine goesL_ (some 35) rfl rfl Tryz.func161 (by kernel_rfl) rfl #[.int .u8 a0_1, .int .i64 a3] rfl (by (try simp only [List.map_toArray, List.map_cons, List.map_nil]); first | done | rfl | (simp only [List.length_drop, List.length_take]; rfl)) ?_; (with_reducible refine (nodeset_Next.calls kj6 a0_1 a3 t167 t168 _ A14.out).mono ?_); rintro e w16 ⟨rfl, hb⟩; refine ⟨_, rfl, ?_⟩; have n0_ := Aside0.mk (blk_below (g := gb165) (o := .cells #[.int .i64 a0_0, .int .u8 a0_1, .int .i64 a0_2] 40 (0, 0)) (by (with_reducible repeat (first | refine blk_drewN ?_ _ | refine blk_drew ?_ | refine blk_alloc ?_ _)); exact BK165.out) hb); have n1_ := Aside0.mk (below_step (by repeat (first | (with_reducible first | exact HB.out | apply below_alloc | apply pw_below_drewN | apply below_drew1 | refine below_set ?_ GE165.out) | exact HB.out)) hb); clear BK165; clear HB; have BK165 := n0_; have HB := n1_; clear n0_ n1_; (try clear hb); (try clear hb2); (try clear hk); (try clear hi)))
            go_ret3
            exact ⟨by first | rfl | (simp [errW_none, errW_some] <;> rfl) | (simp [*, errW_none, errW_some] <;> rfl), by repeat (first | (with_reducible first | exact HB.out | apply below_alloc | apply pw_below_drewN | apply below_drew1 | refine below_set ?_ GE165.out) | exact HB.out)⟩
          · rw [if_neg c13] at H
            have c13b0 : (a0_0 == 2) = false := beq_eq_false_iff_ne.mpr c13
            have c13b1 : (a0_0 != 2) = true := bne_iff_ne.mpr c13
            by_cases c17 : a0_0 = 3
            · rw [if_pos c17] at H
              have c17b0 : (a0_0 == 3) = true := beq_iff_eq.mpr c17
              have c17b1 : (a0_0 != 3) = false := bne_eq_false_iff_eq.mpr c17
              clear c17
              simp only [Option.some.injEq, Prod.mk.injEq] at H
              obtain ⟨rfl, rfl, rfl⟩ := H
              have hcz18_0 : wc.cell? ⟨gb165, 0, none⟩ = some (.int .i64 a0_0) := (blk_cell BK165.out 0).trans rfl
              have hcz18_1 : wc.cell? ⟨gb165, 1, none⟩ = some (.int .u8 a0_1) := (blk_cell BK165.out 1).trans rfl
              have hcz18_2 : wc.cell? ⟨gb165, 2, none⟩ = some (.int .i64 a0_2) := (blk_cell BK165.out 2).trans rfl
              have hfz18_0 := blk_frozen BK165.out 0
              have hfz18_1 := blk_frozen BK165.out 1
              have hfz18_2 := blk_frozen BK165.out 2
              go_wp2
              go_ret3
              exact ⟨by first | rfl | (simp [errW_none, errW_some] <;> rfl) | (simp [*, errW_none, errW_some] <;> rfl), by repeat (first | (with_reducible first | exact HB.out | apply below_alloc | apply pw_below_drewN | apply below_drew1 | refine below_set ?_ GE165.out) | exact HB.out)⟩
            · rw [if_neg c17] at H
              have c17b0 : (a0_0 == 3) = false := beq_eq_false_iff_ne.mpr c17
              have c17b1 : (a0_0 != 3) = true := bne_iff_ne.mpr c17
              simp only [Option.some.injEq, Prod.mk.injEq] at H
              obtain ⟨rfl, rfl, rfl⟩ := H
              have hcz19_0 : wc.cell? ⟨gb165, 0, none⟩ = some (.int .i64 a0_0) := (blk_cell BK165.out 0).trans rfl
              have hcz19_1 : wc.cell? ⟨gb165, 1, none⟩ = some (.int .u8 a0_1) := (blk_cell BK165.out 1).trans rfl
              have hcz19_2 : wc.cell? ⟨gb165, 2, none⟩ = some (.int .i64 a0_2) := (blk_cell BK165.out 2).trans rfl
              have hfz19_0 := blk_frozen BK165.out 0
              have hfz19_1 := blk_frozen BK165.out 1
              have hfz19_2 := blk_frozen BK165.out 2
              go_wp2
              go_ret3
              exact ⟨by first | rfl | (simp [errW_none, errW_some] <;> rfl) | (simp [*, errW_none, errW_some] <;> rfl), by repeat (first | (with_reducible first | exact HB.out | apply below_alloc | apply pw_below_drewN | apply below_drew1 | refine below_set ?_ GE165.out) | exact HB.out)⟩
  · rw [if_neg c6] at H
    have c6b0 : (t166 == 0) = false := beq_eq_false_iff_ne.mpr c6
    have c6b1 : (t166 != 0) = true := bne_iff_ne.mpr c6
    simp only [Option.some.injEq, Prod.mk.injEq] at H
    obtain ⟨rfl, rfl, rfl⟩ := H
    go_enter Tryz.func110, Tryz.ntmps110
    go_wp2_with (first | ((with_reducible refine gate_dst (N := 4) rfl ?_); refine box_event ?hg (N := 4) ?hd (cs := #[.int .i64 a0_0, .int .u8 a0_1, .int .i64 a0_2]) (t := 40) ?hr ?_; (case hd => rfl); (case hg => rfl); (case hr => first | (go_simp; done) | (go_simp; rfl)); intro gb165 hg w20 hbox hb; have n0_ := Aside0.mk (below_step (by repeat (first | (with_reducible first | exact HB.out | apply below_alloc | apply pw_below_drewN | apply below_drew1) | exact HB.out)) hb); have n1_ := Aside0.mk (hbox); have n2_ := Aside0.mk ((by rw [hg]; exact (below_size (by repeat (first | (with_reducible first | exact HB.out | apply below_alloc | apply pw_below_drewN | apply below_drew1) | exact HB.out))) : w.heap.size ≤ gb165)); have n3_ := Aside0.mk ((by rw [hg]; exact (below_size (by repeat (first | (with_reducible first | exact HB.out | apply below_alloc | apply pw_below_drewN | apply below_drew1) | exact HB.out))) : w.heap.size ≤ gb165)); clear HB; have HB := n0_; have BK165 := n1_; have GW165 := n2_; have GE165 := n3_; clear n0_ n1_ n2_ n3_; clear hb hbox hg; have hcz21_0 : w20.cell? ⟨gb165, 0, none⟩ = some (.int .i64 a0_0) := (blk_cell BK165.out 0).trans rfl; have hcz21_1 : w20.cell? ⟨gb165, 1, none⟩ = some (.int .u8 a0_1) := (blk_cell BK165.out 1).trans rfl; have hcz21_2 : w20.cell? ⟨gb165, 2, none⟩ = some (.int .i64 a0_2) := (blk_cell BK165.out 2).trans rfl; have hfz21_0 := blk_frozen BK165.out 0; have hfz21_1 := blk_frozen BK165.out 1; have hfz21_2 := blk_frozen BK165.out 2) | ((with_reducible refine gate_callee (f := 99) rfl ?_); refine goesL_ (some 16) rfl rfl Tryz.func99 (by kernel_rfl) rfl #[.agg #[.int .i64 a0_0, .int .u8 a0_1, .int .i64 a0_2], .int .i64 a1] rfl (by (try simp only [List.map_toArray, List.map_cons, List.map_nil]); first | done | rfl | (simp only [List.length_drop, List.length_take]; rfl)) ?_; (with_reducible refine (policy_Check.calls k a0_0 a0_1 a0_2 a1 t166 _ A5.out).mono ?_); rintro e w22 ⟨rfl, hb⟩; refine ⟨_, rfl, ?_⟩; have n0_ := Aside0.mk (blk_below (g := gb165) (o := .cells #[.int .i64 a0_0, .int .u8 a0_1, .int .i64 a0_2] 40 (0, 0)) (by (with_reducible repeat (first | refine blk_drewN ?_ _ | refine blk_drew ?_ | refine blk_alloc ?_ _)); exact BK165.out) hb); have n1_ := Aside0.mk (below_step (by repeat (first | (with_reducible first | exact HB.out | apply below_alloc | apply pw_below_drewN | apply below_drew1 | refine below_set ?_ GE165.out) | exact HB.out)) hb); clear BK165; clear HB; have BK165 := n0_; have HB := n1_; clear n0_ n1_; (try clear hb); (try clear hb2); (try clear hk); (try clear hi)))
    go_ret3
    exact ⟨by first | rfl | (simp [errW_none, errW_some] <;> rfl) | (simp [*, errW_none, errW_some] <;> rfl), by repeat (first | (with_reducible first | exact HB.out | apply below_alloc | apply pw_below_drewN | apply below_drew1 | refine below_set ?_ GE165.out) | exact HB.out)⟩
end Go.Proofs.YtenkdmloolbdaaaGreatDoor.PH
end
section
namespace Go.Proofs.YtenkdmloolbdaaaGreatDoor.TZ
open Go.RowKit Go.Proofs.YtenkdmloolbdaaaGreatDoorW.PrintWords Go.Proofs.YtenkdmloolbdaaaGreatDoorW.PrintLast Go.Proofs.YtenkdmloolbdaaaGreatDoorW.PrintMore Go.Proofs.YtenkdmloolbdaaaGreatDoor.PH
set_option linter.unusedVariables false
set_option linter.unusedSimpArgs false
def pows : List Int := [1, 2, 4, 8, 16, 32, 64, 128, 256, 512, 1024]
def countsB (n f : Int) (cpus : List Int) : Bool := pows.contains f && decide (1 ≤ n) && decide (n ≤ 8) && decide (1 ≤ cpus.length) && decide (cpus.length ≤ 16)
def cpB (n : Int) (cpus : List Int) : Bool := cpus.all fun c => decide (0 ≤ c) && decide (c < n)
/-- The distance of two nodes. -/
def dd (dist : List (List Int)) (a b : Nat) : Int := (dist.getD a []).getD b 0
def okAt (dist : List (List Int)) (a b : Nat) : Bool := decide (dd dist a b = dd dist b a) && (if a = b then decide (dd dist a b = 10) else decide (11 ≤ dd dist a b) && decide (dd dist a b ≤ 255))
def lensB (n : Nat) (dist : List (List Int)) : Bool := decide (dist.length = n) && (List.range n).all fun a => decide ((dist.getD a []).length = n)
def mtB (n : Nat) (dist : List (List Int)) : Bool := lensB n dist && (List.range n).all fun a => (List.range n).all fun b => okAt dist a b
/-- What a check answers. -/
def chk (n f : Int) (cpus : List Int) (dist : List (List Int)) : Int :=
  if countsB n f cpus = true then (if cpB n cpus = true then (if mtB n.toNat dist = true then 0 else 4) else 10) else 3
theorem wrap_s (x : Int) (h0 : -1000000 ≤ x) (h1 : x ≤ 1000000) : wrap64 x = x := IntWalk.wrap64_in _ ⟨by omega, by omega⟩
theorem rd_dd (dist : List (List Int)) (a b : Nat) : rd (rd_L1 dist (a : Int)) (b : Int) = dd dist a b := by
  unfold rd rd_L1 dd
  rw [Int.toNat_natCast, Int.toNat_natCast]
theorem rdl (dist : List (List Int)) (a : Nat) : rd_L1 dist (a : Int) = dist.getD a [] := by
  unfold rd_L1
  rw [Int.toNat_natCast]
theorem pow_all : (List.range 1025).all (fun f => f == 0 || (decide (Go.bits .and .i64 (f : Int) (wrap64 ((f : Int) - 1)) = 0) == pows.contains (f : Int))) = true := by decide +kernel
theorem pow_and (f : Int) (h1 : 1 ≤ f) (h2 : f ≤ 1024) : decide (Go.bits .and .i64 f (wrap64 (f - 1)) = 0) = pows.contains f := by
  obtain ⟨m, rfl⟩ := Int.eq_ofNat_of_zero_le (show 0 ≤ f by omega)
  have := List.all_eq_true.1 pow_all m (List.mem_range.2 (by omega))
  have h0 : (m == 0) = false := by simp; omega
  rw [h0, Bool.false_or] at this
  exact beq_iff_eq.1 this
theorem pows_in (f : Int) (h : ¬ (1 ≤ f ∧ f ≤ 1024)) : pows.contains f = false := by
  have : ∀ x ∈ pows, 1 ≤ x ∧ x ≤ 1024 := by decide
  rw [List.contains_eq_mem]
  exact decide_eq_false (fun hm => h (this f hm))
theorem counts_f (n f : Int) (cpus : List Int) (dist : List (List Int)) : topo_counts.f n f cpus dist = some (countsB n f cpus) := by
  unfold topo_counts.f countsB
  by_cases h1 : f ≥ 1
  · rw [if_pos h1]
    by_cases h2 : f ≤ 1024
    · rw [if_pos h2, ← pow_and f h1 h2]
      by_cases h3 : Go.bits .and .i64 f (wrap64 (f - 1)) = 0
      · rw [if_pos h3, decide_eq_true h3, Bool.true_and]
        by_cases h4 : n ≥ 1
        · rw [if_pos h4, decide_eq_true (by omega : 1 ≤ n), Bool.true_and]
          by_cases h5 : n ≤ 8
          · rw [if_pos h5, decide_eq_true h5, Bool.true_and]
            by_cases h6 : (cpus.length : Int) ≥ 1
            · rw [if_pos h6, decide_eq_true (by omega : 1 ≤ cpus.length), Bool.true_and]
              congr 1
              by_cases h7 : cpus.length ≤ 16
              · rw [decide_eq_true h7, decide_eq_true (by omega)]
              · rw [decide_eq_false h7, decide_eq_false (by omega)]
            · rw [if_neg h6, decide_eq_false (by omega : ¬ 1 ≤ cpus.length), Bool.false_and]
          · rw [if_neg h5, decide_eq_false h5, Bool.false_and, Bool.false_and]
        · rw [if_neg h4, decide_eq_false (by omega : ¬ 1 ≤ n), Bool.false_and, Bool.false_and, Bool.false_and]
      · rw [if_neg h3, decide_eq_false h3, Bool.false_and, Bool.false_and, Bool.false_and, Bool.false_and]
    · rw [if_neg h2, pows_in f (by omega)]; rfl
  · rw [if_neg h1, pows_in f (by omega)]; rfl
end Go.Proofs.YtenkdmloolbdaaaGreatDoor.TZ
end
section
namespace Go.Proofs.YtenkdmloolbdaaaGreatDoor.TZ
open Go.RowKit Go.Proofs.YtenkdmloolbdaaaGreatDoorW.PrintWords Go.Proofs.YtenkdmloolbdaaaGreatDoorW.PrintLast Go.Proofs.YtenkdmloolbdaaaGreatDoorW.PrintMore Go.Proofs.YtenkdmloolbdaaaGreatDoor.PH
set_option linter.unusedVariables false
set_option linter.unusedSimpArgs false
def iv (xs : List Int) : Array Value := (xs.map (Value.int .i64)).toArray
theorem made_iv (m : Nat) : madeCells #[.int .i64 0] m = iv (List.replicate m 0) := by
  unfold madeCells iv
  rw [List.map_replicate]
  apply Array.ext
  · simp
  · intro i h1 h2
    simp [Nat.mod_one]
structure Gr (w : World) (base g h : Nat) (n m : Nat) (xs : List Int) : Prop where
  lo : base ≤ g
  loh : base ≤ h
  ne : g ≠ h
  cell : w.heap[g]? = some (.cells #[.int .i64 n, .int .i64 m, .slice (some ⟨h, 0, none⟩) xs.length xs.length] 300 (0, 0))
  row : w.heap[h]? = some (.cells (iv xs) 3 (0, 0))
  len : xs.length = n * m
section
variable {w w' : World} {base g h n m : Nat} {xs : List Int}
theorem Gr.c0 (H : Gr w base g h n m xs) : w.cell? ⟨g, 0, none⟩ = some (.int .i64 n) := by simp only [World.cell?, H.cell]; rfl
theorem Gr.c1 (H : Gr w base g h n m xs) : w.cell? ⟨g, 1, none⟩ = some (.int .i64 m) := by simp only [World.cell?, H.cell]; rfl
theorem Gr.c2 (H : Gr w base g h n m xs) : w.cell? ⟨g, 2, none⟩ = some (.slice (some ⟨h, 0, none⟩) xs.length xs.length) := by simp only [World.cell?, H.cell]; rfl
theorem Gr.at_ (H : Gr w base g h n m xs) (i : Nat) (x : Int) (hx : xs[i]? = some x) : w.cell? ⟨h, i, none⟩ = some (.int .i64 x) := by
  simp only [World.cell?, H.row]
  show (iv xs)[i]? = _
  unfold iv
  rw [List.getElem?_toArray, List.getElem?_map, hx]; rfl
theorem Gr.fz (H : Gr w base g h n m xs) (i : Nat) : w.frozen? ⟨h, i, none⟩ = false := by simp [World.frozen?, H.row]
theorem Gr.below (H : Gr w base g h n m xs) (hb : Below w.heap.size w w') : Gr w' base g h n m xs :=
  ⟨H.lo, H.loh, H.ne, (hb.block g (Array.getElem?_eq_some_iff.1 H.cell).1).trans H.cell, (hb.block h (Array.getElem?_eq_some_iff.1 H.row).1).trans H.row, H.len⟩
theorem Gr.put (H : Gr w base g h n m xs) (i : Nat) (x : Int) : Gr (w.setCell ⟨h, i, none⟩ (.int .i64 x)) base g h n m (xs.set i x) := by
  refine ⟨H.lo, H.loh, H.ne, ?_, ?_, by rw [List.length_set]; exact H.len⟩
  · rw [Below.heap_setCell w ⟨h, i, none⟩ _ g H.ne, List.length_set]; exact H.cell
  · have hlt := (Array.getElem?_eq_some_iff.1 H.row).1
    have hg := (Array.getElem?_eq_some_iff.1 H.row).2
    unfold World.setCell
    rw [Array.getElem?_modify]
    simp only [if_true, H.row, Option.map_some]
    unfold iv
    congr 2
    rw [List.map_set]
    simp
theorem Gr.putBelow (H : Gr w base g h n m xs) (i : Nat) (v : Value) : Below base w (w.setCell ⟨h, i, none⟩ v) := (Below.refl base w).setCell (p := ⟨h, i, none⟩) H.loh _
end
def NewP (w : World) (n : Nat) (xs : List Int) (e : Ending) (w' : World) : Prop := ∃ g h, e = .returned (.tuple #[.pointer (some ⟨g, 0, none⟩), .int .i64 0]) ∧ Gr w' w.heap.size g h n n xs ∧ Below w.heap.size w w'
set_option maxHeartbeats 1000000 in
set_option maxRecDepth 100000 in
theorem new_g (n : Nat) (h1 : 1 ≤ n) (h8 : n ≤ 8) (w : World) :
    Calls Tryz.prog 213 #[.int .i64 n, .int .i64 n] w (NewP w n (List.replicate (n * n) 0)) := by
  obtain ⟨p, hp⟩ : ∃ p, n * n = p := ⟨_, rfl⟩
  have hp64 : p ≤ 64 := by rw [← hp]; exact Nat.mul_le_mul h8 h8
  have hpI : (n : Int) * (n : Int) = (p : Int) := by rw [← hp, Int.natCast_mul]
  have hmk := print_make (P := Tryz.prog) 34 3 .i64 8 Tryz.underlying34 (by kernel_rfl) (by decide) p (by omega)
  have d1 : decide ((n : Int) < 0) = false := decide_eq_false (by omega)
  have d2 : decide (64 < (n : Int)) = false := decide_eq_false (by omega)
  have d3 : ¬ (64 < (n : Int)) := by omega
  have HP := Aside0.mk hp
  clear hp
  go_enter Tryz.func213, Tryz.ntmps213
  go_wp2_with fail
  go_ret2
  have hb : Below w.heap.size w (w.alloc (.cells (madeCells #[.int .i64 0] p) 3)) := below_alloc (Below.refl _ _) _
  refine ⟨w.heap.size + 1, w.heap.size, rfl, ⟨by omega, Nat.le_refl _, by omega, ?_, ?_, by rw [List.length_replicate]⟩, below_alloc hb _⟩
  · have := heap_alloc_new (w.alloc (.cells (madeCells #[.int .i64 0] p) 3)) (.cells #[.int .i64 n, .int .i64 n, .slice (some ⟨w.heap.size, 0, none⟩) p p] 300)
    rw [World.size_alloc] at this
    rw [List.length_replicate, HP.out]; exact this
  · rw [heap_alloc_old _ _ (by simp), heap_alloc_new, HP.out, made_iv]
set_option maxHeartbeats 1000000 in
set_option maxRecDepth 100000 in
theorem at_g (base g h n m r c p : Nat) (xs : List Int) (w : World) (H : Gr w base g h n m xs) (hr : r < n) (hc : c < m) (hn : n ≤ 8) (hm : m ≤ 8) (hp : r * m + c = p) :
    Calls Tryz.prog 229 #[.pointer (some ⟨g, 0, none⟩), .int .i64 r, .int .i64 c] w fun e w' => e = .returned (.tuple #[.int .i64 p, .int .i64 0]) ∧ w' = w := by
  have c0 := H.c0
  have c1 := H.c1
  obtain ⟨q, hq⟩ : ∃ q, r * m = q := ⟨_, rfl⟩
  have hq64 : q ≤ 64 := by rw [← hq]; exact Nat.mul_le_mul (by omega : r ≤ 8) hm
  have hqI : (r : Int) * (m : Int) = (q : Int) := by rw [← hq, Int.natCast_mul]
  have hpI : (q : Int) + (c : Int) = (p : Int) := by omega
  have hp' : p ≤ 100 := by omega
  have d1 : decide ((r : Int) < 0) = false := decide_eq_false (by omega)
  have d2 : decide (n ≤ r) = false := decide_eq_false (by omega)
  have d2' : ¬ n ≤ r := by omega
  have d3 : decide ((c : Int) < 0) = false := decide_eq_false (by omega)
  have d4 : decide (m ≤ c) = false := decide_eq_false (by omega)
  have d4' : ¬ m ≤ c := by omega
  clear H hp hq
  go_enter Tryz.func229, Tryz.ntmps229
  go_wp2_with fail
  go_ret2
  exact ⟨rfl, rfl⟩
set_option maxHeartbeats 1000000 in
set_option maxRecDepth 100000 in
theorem put_g (base g h n m r c p : Nat) (x : Int) (xs : List Int) (w : World) (H : Gr w base g h n m xs) (hr : r < n) (hc : c < m) (hn : n ≤ 8) (hm : m ≤ 8) (hp : r * m + c = p) :
    Calls Tryz.prog 214 #[.pointer (some ⟨g, 0, none⟩), .int .i64 r, .int .i64 c, .int .i64 x] w fun e w' => e = .returned (.int .i64 0) ∧ w' = w.setCell ⟨h, p, none⟩ (.int .i64 x) := by
  have HA := Aside0.mk (at_g base g h n m r c p xs w H hr hc hn hm hp)
  have c2 := H.c2
  have hpl : p < xs.length := by
    rw [H.len, ← hp]
    have : r * m + m ≤ n * m := by rw [← Nat.succ_mul]; exact Nat.mul_le_mul_right m hr
    omega
  obtain ⟨y, hy⟩ : ∃ y, xs[p]? = some y := ⟨_, List.getElem?_eq_getElem hpl⟩
  have hcell := H.at_ p y hy
  have hf := H.fz p
  have hl64 : xs.length ≤ 64 := by rw [H.len]; exact Nat.mul_le_mul hn hm
  have hp0 : (0 : Int) ≤ (p : Int) := by omega
  have hpI : (p : Int) < (xs.length : Int) := by omega
  clear H hy hp
  go_enter Tryz.func214, Tryz.ntmps214
  go_wp2_with (go_at_call 229; (with_reducible refine HA.out.mono ?_); rintro e_ w2 ⟨rfl, hw⟩; rw [hw]; clear hw w2)
  go_ret
  exact ⟨rfl, rfl⟩
end Go.Proofs.YtenkdmloolbdaaaGreatDoor.TZ
end
