/- Printed by the kit for this seat, cut by cutp.py: functions as Lean functions, and that the code comes to them. -/
import Derived.Test.YtffmhpfdfcpniaaP3
import Derived.Test.YtffmhpfdfcpniaaQ4
namespace Go.Proofs.Ytffmhpfdfcpniaa.PH
open Go.RowKit Go.Proofs.YtffmhpfdfcpniaaW.PrintWords Go.Proofs.YtffmhpfdfcpniaaW.PrintLast Go.Proofs.YtffmhpfdfcpniaaW.PrintMore
attribute [local go_sem] max2_int min2_int max_two min_two max_three min_three max_four min_four   -- for this text's walks alone
set_option linter.unusedVariables false
set_option linter.unusedSimpArgs false

/-! ### messuageref10_Check: function 29 -/
mutual
def messuageref10_Check.j0 : Nat → Int → Bool → Int → Int → Int → Option (Int)
  | 0, _, _, _, _, _ => none
  | k + 1, x1, x11, x170000, x170001, x170002 => if x11 = true then (some 3) else (if x170000 < 0 then (messuageref10_Check.j1 k x1 true x170000 x170001 x170002) else (if x170000 > 3 then (messuageref10_Check.j1 k x1 true x170000 x170001 x170002) else (if x170000 = 1 then (messuageref10_Check.j1 k x1 (x170001 == 0) x170000 x170001 x170002) else (if x170000 = 2 then (messuageref10_Check.j1 k x1 (x170001 == 0) x170000 x170001 x170002) else (messuageref10_Check.j1 k x1 false x170000 x170001 x170002)))))
def messuageref10_Check.j1 : Nat → Int → Bool → Int → Int → Int → Option (Int)
  | 0, _, _, _, _, _ => none
  | k + 1, x1, x34, x170000, x170001, x170002 => if x34 = true then (some 1) else ((messuageref01_List.f k x170001).bind fun t170 => (if x170000 = 1 then (if 0 ≤ (wrap64 ((t170.length : Int) - 1)) then (if (wrap64 ((t170.length : Int) - 1)) < (t170.length : Int) then (if (rd t170 (wrap64 ((t170.length : Int) - 1))) ≥ x1 then (some 10) else (if x170000 = 3 then (if x170002 < 0 then (some 10) else (if x170002 ≥ x1 then (some 10) else (some 0))) else (some 0))) else (none)) else (none)) else (if x170000 = 2 then (if 0 ≤ (wrap64 ((t170.length : Int) - 1)) then (if (wrap64 ((t170.length : Int) - 1)) < (t170.length : Int) then (if (rd t170 (wrap64 ((t170.length : Int) - 1))) ≥ x1 then (some 10) else (if x170000 = 3 then (if x170002 < 0 then (some 10) else (if x170002 ≥ x1 then (some 10) else (some 0))) else (some 0))) else (none)) else (none)) else (if x170000 = 3 then (if x170002 < 0 then (some 10) else (if x170002 ≥ x1 then (some 10) else (some 0))) else (some 0)))))
end
def messuageref10_Check.f (k : Nat) (a0_0 : Int) (a0_1 : Int) (a0_2 : Int) (a1 : Int) : Option (Int) := if a1 < 1 then (messuageref10_Check.j0 k a1 true a0_0 a0_1 a0_2) else (messuageref10_Check.j0 k a1 (decide (a1 > 8)) a0_0 a0_1 a0_2)
theorem messuageref10_Check.mono_l : ∀ k, (∀ y0 y1 y2 y3 y4, LeO (messuageref10_Check.j0 k y0 y1 y2 y3 y4) (messuageref10_Check.j0 (k + 1) y0 y1 y2 y3 y4)) ∧ (∀ y0 y1 y2 y3 y4, LeO (messuageref10_Check.j1 k y0 y1 y2 y3 y4) (messuageref10_Check.j1 (k + 1) y0 y1 y2 y3 y4))
  | 0 => ⟨fun _ _ _ _ _ r h => by simp [messuageref10_Check.j0] at h, fun _ _ _ _ _ r h => by simp [messuageref10_Check.j1] at h⟩
  | k + 1 => by
    obtain ⟨ih0, ih1⟩ := messuageref10_Check.mono_l k
    refine ⟨?_, ?_⟩
    · intro y0 y1 y2 y3 y4
      unfold messuageref10_Check.j0
      repeat' first
      | (with_reducible exact ih0 _ _ _ _ _)
      | (with_reducible exact ih1 _ _ _ _ _)
      | (with_reducible exact messuageref01_List.mono _ _)
      | (with_reducible exact LeO.refl _)
      | (with_reducible exact LeO.none _)
      | (with_reducible refine LeO.ite ?_ ?_)
      | (with_reducible refine LeO.bind ?_ (fun _ => ?_))
      | exact ih0 _ _ _ _ _
      | exact ih1 _ _ _ _ _
      | exact messuageref01_List.mono _ _
      | exact LeO.none _
      | refine LeO.ite ?_ ?_
      | refine LeO.bind ?_ (fun _ => ?_)
    · intro y0 y1 y2 y3 y4
      unfold messuageref10_Check.j1
      repeat' first
      | (with_reducible exact ih0 _ _ _ _ _)
      | (with_reducible exact ih1 _ _ _ _ _)
      | (with_reducible exact messuageref01_List.mono _ _)
      | (with_reducible exact LeO.refl _)
      | (with_reducible exact LeO.none _)
      | (with_reducible refine LeO.ite ?_ ?_)
      | (with_reducible refine LeO.bind ?_ (fun _ => ?_))
      | exact ih0 _ _ _ _ _
      | exact ih1 _ _ _ _ _
      | exact messuageref01_List.mono _ _
      | exact LeO.none _
      | refine LeO.ite ?_ ?_
      | refine LeO.bind ?_ (fun _ => ?_)
theorem messuageref10_Check.mono : ∀ a0 a1 a2 a3 k, LeO (messuageref10_Check.f k a0 a1 a2 a3) (messuageref10_Check.f (k + 1) a0 a1 a2 a3) := by
  intro a0 a1 a2 a3 k
  obtain ⟨ih0, ih1⟩ := messuageref10_Check.mono_l k
  unfold messuageref10_Check.f
  repeat' first
      | (with_reducible exact ih0 _ _ _ _ _)
      | (with_reducible exact ih1 _ _ _ _ _)
      | (with_reducible exact messuageref01_List.mono _ _)
      | (with_reducible exact LeO.refl _)
      | (with_reducible exact LeO.none _)
      | (with_reducible refine LeO.ite ?_ ?_)
      | (with_reducible refine LeO.bind ?_ (fun _ => ?_))
      | exact ih0 _ _ _ _ _
      | exact ih1 _ _ _ _ _
      | exact messuageref01_List.mono _ _
      | exact LeO.none _
      | refine LeO.ite ?_ ?_
      | refine LeO.bind ?_ (fun _ => ?_)
set_option maxHeartbeats 8000000 in
set_option maxRecDepth 100000 in
theorem messuageref10_Check.calls (k : Nat) (a0_0 : Int) (a0_1 : Int) (a0_2 : Int) (a1 : Int) (r : Int) (w : World) (h : messuageref10_Check.f k a0_0 a0_1 a0_2 a1 = some r) :
    Calls Try.prog 29 #[.agg #[.int .i64 a0_0, .int .u8 a0_1, .int .i64 a0_2], .int .i64 a1] w fun e w' => e = .returned (.int .i64 r) ∧ Below w.heap.size w w' := by
  have hu49 := Try.underlying49
  have HB := Aside0.mk (Below.refl w.heap.size w)
  have H : (if a1 < 1 then (messuageref10_Check.j0 k a1 true a0_0 a0_1 a0_2) else (messuageref10_Check.j0 k a1 (decide (a1 > 8)) a0_0 a0_1 a0_2)) = some r := h
  clear h
  have HC3 := Aside0.mk H
  clear H
  go_enter Try.func29, Try.ntmps29
  go_upto_region 1 with (first | ((with_reducible refine gate_dst (N := 2) rfl ?_); (try (refine gate_guard (by rfl) ?_; dsimp only)); refine box_event ?hg (N := 2) ?hd (cs := #[.int .i64 a0_0, .int .u8 a0_1, .int .i64 a0_2]) (t := 49) ?hr ?_; (case hd => rfl); (case hg => rfl); (case hr => first | (go_simp; done) | (go_simp; rfl)); intro gb169 hg w4 hbox hb; have n0_ := Aside0.mk (below_step (by repeat (first | (with_reducible first | exact HB.out | apply below_alloc | apply pw_below_drewN | apply below_drew1) | exact HB.out)) hb); have n1_ := Aside0.mk (hbox); have n2_ := Aside0.mk ((by rw [hg]; exact (below_size (by repeat (first | (with_reducible first | exact HB.out | apply below_alloc | apply pw_below_drewN | apply below_drew1) | exact HB.out))) : w.heap.size ≤ gb169)); have n3_ := Aside0.mk ((by rw [hg]; exact (below_size (by repeat (first | (with_reducible first | exact HB.out | apply below_alloc | apply pw_below_drewN | apply below_drew1) | exact HB.out))) : w.heap.size ≤ gb169)); clear HB; have HB := n0_; have BK169 := n1_; have GW169 := n2_; have GE169 := n3_; clear n0_ n1_ n2_ n3_; clear hb hbox hg))
  (try simp only [Act.put, List.setIfInBounds_toArray, List.set_cons_zero, List.set_cons_succ])
  go_cut [11] (fun v11 wc => ∃ (kq : Nat) (x11_2 : Bool), v11 = .bool x11_2 ∧ Aside0 (messuageref10_Check.j0 kq a1 x11_2 a0_0 a0_1 a0_2 = some r) ∧ Aside0 (kq ≤ k) ∧ Aside0 (wc.heap[gb169]? = some (.cells #[.int .i64 a0_0, .int .u8 a0_1, .int .i64 a0_2] 49 (0, 0))) ∧ Aside0 (Below w.heap.size w wc))
  case first =>
    have H := HC3.out
    clear HC3
    by_cases c5 : a1 < 1
    · rw [if_pos c5] at H
      have c5b0 : decide (a1 < 1) = true := decide_eq_true c5
      clear c5
      (first | rw [c5b0] | (simp only [i64_w, i32_w]; rw [c5b0]) | skip)
      have H' := Aside0.mk H
      clear H
      go_wp2
      go_meet
      case rel => exact ⟨_, (true), (by first | rfl | (simp; done) | (simp [*]; done)), H', ⟨by first | omega | exact Nat.le_refl _⟩, ⟨by (with_reducible repeat (first | refine blk_drewN ?_ _ | refine blk_drew ?_ | refine blk_alloc ?_ _)); exact BK169.out⟩, ⟨by repeat (first | (with_reducible first | exact HB.out | apply below_alloc | apply pw_below_drewN | apply below_drew1 | refine below_set ?_ GE169.out) | exact HB.out)⟩⟩
    · rw [if_neg c5] at H
      have c5b0 : decide (a1 < 1) = false := decide_eq_false c5
      clear c5
      (first | rw [c5b0] | (simp only [i64_w, i32_w]; rw [c5b0]) | skip)
      have H' := Aside0.mk H
      clear H
      go_wp2
      go_meet
      case rel => exact ⟨_, (decide (a1 > 8)), (by first | rfl | (simp; done) | (simp [*]; done)), H', ⟨by first | omega | exact Nat.le_refl _⟩, ⟨by (with_reducible repeat (first | refine blk_drewN ?_ _ | refine blk_drew ?_ | refine blk_alloc ?_ _)); exact BK169.out⟩, ⟨by repeat (first | (with_reducible first | exact HB.out | apply below_alloc | apply pw_below_drewN | apply below_drew1 | refine below_set ?_ GE169.out) | exact HB.out)⟩⟩
  case rest =>
    clear HC3
    try clear c2
    try clear p2
    try clear c5
    try clear c5b0
    obtain ⟨kq, x11_2, rfl, HA, HJ2, BK169, HB⟩ := hcut
    cases kq with
    | zero => exact absurd HA.out (by simp [messuageref10_Check.j0])
    | succ kj2 =>
      have H := HA.out
      clear HA
      simp only [messuageref10_Check.j0] at H
      by_cases c6 : x11_2 = true
      · subst c6
        have H1 : (some 3) = some r := by rw [if_pos rfl] at H; exact H
        clear H
        have H := H1
        clear H1
        obtain rfl := Option.some.inj H
        go_wp2
        go_ret
        exact ⟨by first | rfl | (simp [errW_none, errW_some] <;> rfl) | (simp [*, errW_none, errW_some] <;> rfl), by repeat (first | (with_reducible first | exact HB.out | apply below_alloc | apply pw_below_drewN | apply below_drew1 | refine below_set ?_ GE169.out) | exact HB.out)⟩
      · replace c6 := Bool.eq_false_iff.mpr c6
        subst c6
        have H1 : (if a0_0 < 0 then (messuageref10_Check.j1 kj2 a1 true a0_0 a0_1 a0_2) else (if a0_0 > 3 then (messuageref10_Check.j1 kj2 a1 true a0_0 a0_1 a0_2) else (if a0_0 = 1 then (messuageref10_Check.j1 kj2 a1 (a0_1 == 0) a0_0 a0_1 a0_2) else (if a0_0 = 2 then (messuageref10_Check.j1 kj2 a1 (a0_1 == 0) a0_0 a0_1 a0_2) else (messuageref10_Check.j1 kj2 a1 false a0_0 a0_1 a0_2))))) = some r := by rw [if_neg (show ¬ (false = true) by decide)] at H; exact H
        clear H
        have H := H1
        clear H1
        have HC7 := Aside0.mk H
        clear H
        go_upto_region 3 with (fail)
        go_cut [34] (fun v34 wc => ∃ (kq : Nat) (x34_6 : Bool), v34 = .bool x34_6 ∧ Aside0 (messuageref10_Check.j1 kq a1 x34_6 a0_0 a0_1 a0_2 = some r) ∧ Aside0 (kq ≤ kj2) ∧ Aside0 (wc.heap[gb169]? = some (.cells #[.int .i64 a0_0, .int .u8 a0_1, .int .i64 a0_2] 49 (0, 0))) ∧ Aside0 (Below w.heap.size w wc))
        case first =>
          have H := HC7.out
          clear HC7
          by_cases c8 : a0_0 < 0
          · rw [if_pos c8] at H
            have c8b0 : decide (a0_0 < 0) = true := decide_eq_true c8
            clear c8
            (first | rw [c8b0] | (simp only [i64_w, i32_w]; rw [c8b0]) | skip)
            have H' := Aside0.mk H
            clear H
            have hcz9_0 : wc.cell? ⟨gb169, 0, none⟩ = some (.int .i64 a0_0) := (blk_cell BK169.out 0).trans rfl
            have hcz9_1 : wc.cell? ⟨gb169, 1, none⟩ = some (.int .u8 a0_1) := (blk_cell BK169.out 1).trans rfl
            have hcz9_2 : wc.cell? ⟨gb169, 2, none⟩ = some (.int .i64 a0_2) := (blk_cell BK169.out 2).trans rfl
            have hfz9_0 := blk_frozen BK169.out 0
            have hfz9_1 := blk_frozen BK169.out 1
            have hfz9_2 := blk_frozen BK169.out 2
            go_wp2
            go_meet
            case rel => exact ⟨_, (true), (by first | rfl | (simp; done) | (simp [*]; done)), H', ⟨by have := HJ2.out; first | omega | exact Nat.le_refl _⟩, ⟨by (with_reducible repeat (first | refine blk_drewN ?_ _ | refine blk_drew ?_ | refine blk_alloc ?_ _)); exact BK169.out⟩, ⟨by repeat (first | (with_reducible first | exact HB.out | apply below_alloc | apply pw_below_drewN | apply below_drew1 | refine below_set ?_ GE169.out) | exact HB.out)⟩⟩
          · rw [if_neg c8] at H
            have c8b0 : decide (a0_0 < 0) = false := decide_eq_false c8
            clear c8
            (first | rw [c8b0] | (simp only [i64_w, i32_w]; rw [c8b0]) | skip)
            by_cases c10 : a0_0 > 3
            · rw [if_pos c10] at H
              have c10b0 : decide (3 < a0_0) = true := decide_eq_true c10
              clear c10
              have H' := Aside0.mk H
              clear H
              have hcz11_0 : wc.cell? ⟨gb169, 0, none⟩ = some (.int .i64 a0_0) := (blk_cell BK169.out 0).trans rfl
              have hcz11_1 : wc.cell? ⟨gb169, 1, none⟩ = some (.int .u8 a0_1) := (blk_cell BK169.out 1).trans rfl
              have hcz11_2 : wc.cell? ⟨gb169, 2, none⟩ = some (.int .i64 a0_2) := (blk_cell BK169.out 2).trans rfl
              have hfz11_0 := blk_frozen BK169.out 0
              have hfz11_1 := blk_frozen BK169.out 1
              have hfz11_2 := blk_frozen BK169.out 2
              go_wp2
              go_meet
              case rel => exact ⟨_, (true), (by first | rfl | (simp; done) | (simp [*]; done)), H', ⟨by have := HJ2.out; first | omega | exact Nat.le_refl _⟩, ⟨by (with_reducible repeat (first | refine blk_drewN ?_ _ | refine blk_drew ?_ | refine blk_alloc ?_ _)); exact BK169.out⟩, ⟨by repeat (first | (with_reducible first | exact HB.out | apply below_alloc | apply pw_below_drewN | apply below_drew1 | refine below_set ?_ GE169.out) | exact HB.out)⟩⟩
            · rw [if_neg c10] at H
              have c10b0 : decide (3 < a0_0) = false := decide_eq_false c10
              clear c10
              by_cases c12 : a0_0 = 1
              · rw [if_pos c12] at H
                have c12b0 : (a0_0 == 1) = true := beq_iff_eq.mpr c12
                have c12b1 : (a0_0 != 1) = false := bne_eq_false_iff_eq.mpr c12
                clear c12
                have H' := Aside0.mk H
                clear H
                have hcz13_0 : wc.cell? ⟨gb169, 0, none⟩ = some (.int .i64 a0_0) := (blk_cell BK169.out 0).trans rfl
                have hcz13_1 : wc.cell? ⟨gb169, 1, none⟩ = some (.int .u8 a0_1) := (blk_cell BK169.out 1).trans rfl
                have hcz13_2 : wc.cell? ⟨gb169, 2, none⟩ = some (.int .i64 a0_2) := (blk_cell BK169.out 2).trans rfl
                have hfz13_0 := blk_frozen BK169.out 0
                have hfz13_1 := blk_frozen BK169.out 1
                have hfz13_2 := blk_frozen BK169.out 2
                go_wp2
                go_meet
                case rel => exact ⟨_, ((a0_1 == 0)), (by first | rfl | (simp; done) | (simp [*]; done)), H', ⟨by have := HJ2.out; first | omega | exact Nat.le_refl _⟩, ⟨by (with_reducible repeat (first | refine blk_drewN ?_ _ | refine blk_drew ?_ | refine blk_alloc ?_ _)); exact BK169.out⟩, ⟨by repeat (first | (with_reducible first | exact HB.out | apply below_alloc | apply pw_below_drewN | apply below_drew1 | refine below_set ?_ GE169.out) | exact HB.out)⟩⟩
              · rw [if_neg c12] at H
                have c12b0 : (a0_0 == 1) = false := beq_eq_false_iff_ne.mpr c12
                have c12b1 : (a0_0 != 1) = true := bne_iff_ne.mpr c12
                by_cases c14 : a0_0 = 2
                · rw [if_pos c14] at H
                  have c14b0 : (a0_0 == 2) = true := beq_iff_eq.mpr c14
                  have c14b1 : (a0_0 != 2) = false := bne_eq_false_iff_eq.mpr c14
                  clear c14
                  have H' := Aside0.mk H
                  clear H
                  have hcz15_0 : wc.cell? ⟨gb169, 0, none⟩ = some (.int .i64 a0_0) := (blk_cell BK169.out 0).trans rfl
                  have hcz15_1 : wc.cell? ⟨gb169, 1, none⟩ = some (.int .u8 a0_1) := (blk_cell BK169.out 1).trans rfl
                  have hcz15_2 : wc.cell? ⟨gb169, 2, none⟩ = some (.int .i64 a0_2) := (blk_cell BK169.out 2).trans rfl
                  have hfz15_0 := blk_frozen BK169.out 0
                  have hfz15_1 := blk_frozen BK169.out 1
                  have hfz15_2 := blk_frozen BK169.out 2
                  go_wp2
                  go_meet
                  case rel => exact ⟨_, ((a0_1 == 0)), (by first | rfl | (simp; done) | (simp [*]; done)), H', ⟨by have := HJ2.out; first | omega | exact Nat.le_refl _⟩, ⟨by (with_reducible repeat (first | refine blk_drewN ?_ _ | refine blk_drew ?_ | refine blk_alloc ?_ _)); exact BK169.out⟩, ⟨by repeat (first | (with_reducible first | exact HB.out | apply below_alloc | apply pw_below_drewN | apply below_drew1 | refine below_set ?_ GE169.out) | exact HB.out)⟩⟩
                · rw [if_neg c14] at H
                  have c14b0 : (a0_0 == 2) = false := beq_eq_false_iff_ne.mpr c14
                  have c14b1 : (a0_0 != 2) = true := bne_iff_ne.mpr c14
                  have H' := Aside0.mk H
                  clear H
                  have hcz16_0 : wc.cell? ⟨gb169, 0, none⟩ = some (.int .i64 a0_0) := (blk_cell BK169.out 0).trans rfl
                  have hcz16_1 : wc.cell? ⟨gb169, 1, none⟩ = some (.int .u8 a0_1) := (blk_cell BK169.out 1).trans rfl
                  have hcz16_2 : wc.cell? ⟨gb169, 2, none⟩ = some (.int .i64 a0_2) := (blk_cell BK169.out 2).trans rfl
                  have hfz16_0 := blk_frozen BK169.out 0
                  have hfz16_1 := blk_frozen BK169.out 1
                  have hfz16_2 := blk_frozen BK169.out 2
                  go_wp2
                  go_meet
                  case rel => exact ⟨_, (false), (by first | rfl | (simp; done) | (simp [*]; done)), H', ⟨by have := HJ2.out; first | omega | exact Nat.le_refl _⟩, ⟨by (with_reducible repeat (first | refine blk_drewN ?_ _ | refine blk_drew ?_ | refine blk_alloc ?_ _)); exact BK169.out⟩, ⟨by repeat (first | (with_reducible first | exact HB.out | apply below_alloc | apply pw_below_drewN | apply below_drew1 | refine below_set ?_ GE169.out) | exact HB.out)⟩⟩
        case rest =>
          clear HC7
          try clear c1
          try clear c2
          try clear p2
          try clear c5
          try clear c5b0
          try clear c6
          try clear c8
          try clear c8b0
          try clear c10
          try clear c10b0
          try clear c12
          try clear c12b0
          try clear c12b1
          try clear c14
          try clear c14b0
          try clear c14b1
          try clear hcz11_0
          try clear hcz11_1
          try clear hcz11_2
          try clear hcz13_0
          try clear hcz13_1
          try clear hcz13_2
          try clear hcz15_0
          try clear hcz15_1
          try clear hcz15_2
          try clear hcz16_0
          try clear hcz16_1
          try clear hcz16_2
          try clear hcz9_0
          try clear hcz9_1
          try clear hcz9_2
          try clear hfz11_0
          try clear hfz11_1
          try clear hfz11_2
          try clear hfz13_0
          try clear hfz13_1
          try clear hfz13_2
          try clear hfz15_0
          try clear hfz15_1
          try clear hfz15_2
          try clear hfz16_0
          try clear hfz16_1
          try clear hfz16_2
          try clear hfz9_0
          try clear hfz9_1
          try clear hfz9_2
          try clear p2
          obtain ⟨kq, x34_6, rfl, HA, HJ6, BK169, HB⟩ := hcut
          cases kq with
          | zero => exact absurd HA.out (by simp [messuageref10_Check.j1])
          | succ kj6 =>
            have H := HA.out
            clear HA
            simp only [messuageref10_Check.j1] at H
            by_cases c17 : x34_6 = true
            · subst c17
              have H1 : (some 1) = some r := by rw [if_pos rfl] at H; exact H
              clear H
              have H := H1
              clear H1
              obtain rfl := Option.some.inj H
              go_wp2
              go_ret
              exact ⟨by first | rfl | (simp [errW_none, errW_some] <;> rfl) | (simp [*, errW_none, errW_some] <;> rfl), by repeat (first | (with_reducible first | exact HB.out | apply below_alloc | apply pw_below_drewN | apply below_drew1 | refine below_set ?_ GE169.out) | exact HB.out)⟩
            · replace c17 := Bool.eq_false_iff.mpr c17
              subst c17
              have H1 : ((messuageref01_List.f kj6 a0_1).bind fun t170 => (if a0_0 = 1 then (if 0 ≤ (wrap64 ((t170.length : Int) - 1)) then (if (wrap64 ((t170.length : Int) - 1)) < (t170.length : Int) then (if (rd t170 (wrap64 ((t170.length : Int) - 1))) ≥ a1 then (some 10) else (if a0_0 = 3 then (if a0_2 < 0 then (some 10) else (if a0_2 ≥ a1 then (some 10) else (some 0))) else (some 0))) else (none)) else (none)) else (if a0_0 = 2 then (if 0 ≤ (wrap64 ((t170.length : Int) - 1)) then (if (wrap64 ((t170.length : Int) - 1)) < (t170.length : Int) then (if (rd t170 (wrap64 ((t170.length : Int) - 1))) ≥ a1 then (some 10) else (if a0_0 = 3 then (if a0_2 < 0 then (some 10) else (if a0_2 ≥ a1 then (some 10) else (some 0))) else (some 0))) else (none)) else (none)) else (if a0_0 = 3 then (if a0_2 < 0 then (some 10) else (if a0_2 ≥ a1 then (some 10) else (some 0))) else (some 0))))) = some r := by rw [if_neg (show ¬ (false = true) by decide)] at H; exact H
              clear H
              have H := H1
              clear H1
              replace H := Option.bind_eq_some_iff.mp H
              obtain ⟨t170, A180, H⟩ := H
              replace H : (if a0_0 = 1 then (if 0 ≤ (wrap64 ((t170.length : Int) - 1)) then (if (wrap64 ((t170.length : Int) - 1)) < (t170.length : Int) then (if (rd t170 (wrap64 ((t170.length : Int) - 1))) ≥ a1 then (some 10) else (if a0_0 = 3 then (if a0_2 < 0 then (some 10) else (if a0_2 ≥ a1 then (some 10) else (some 0))) else (some 0))) else (none)) else (none)) else (if a0_0 = 2 then (if 0 ≤ (wrap64 ((t170.length : Int) - 1)) then (if (wrap64 ((t170.length : Int) - 1)) < (t170.length : Int) then (if (rd t170 (wrap64 ((t170.length : Int) - 1))) ≥ a1 then (some 10) else (if a0_0 = 3 then (if a0_2 < 0 then (some 10) else (if a0_2 ≥ a1 then (some 10) else (some 0))) else (some 0))) else (none)) else (none)) else (if a0_0 = 3 then (if a0_2 < 0 then (some 10) else (if a0_2 ≥ a1 then (some 10) else (some 0))) else (some 0)))) = some r := H
              have A18 := Aside0.mk A180
              clear A180
              by_cases c19 : a0_0 = 1
              · rw [if_pos c19] at H
                have c19b0 : (a0_0 == 1) = true := beq_iff_eq.mpr c19
                have c19b1 : (a0_0 != 1) = false := bne_eq_false_iff_eq.mpr c19
                clear c19
                obtain ⟨ji20, hji20⟩ : ∃ j_ : Int, (wrap64 ((t170.length : Int) - 1)) = j_ := ⟨_, rfl⟩
                replace H : (if 0 ≤ (ji20) then (if (ji20) < (t170.length : Int) then (if (rd t170 (ji20)) ≥ a1 then (some 10) else (if a0_0 = 3 then (if a0_2 < 0 then (some 10) else (if a0_2 ≥ a1 then (some 10) else (some 0))) else (some 0))) else (none)) else (none)) = some r := by first | (rw [hji20] at H; exact H) | (simp only [hji20] at H ⊢; exact H)
                (try rw [hji20] at A18)
                have hji20w : (IntKind.i64.wrap ((t170.length : Int) - 1)) = ji20 := (i64_w _).trans hji20
                by_cases c21 : 0 ≤ (ji20)
                · rw [if_pos c21] at H
                  have c21b0 : decide (0 ≤ (ji20)) = true := decide_eq_true c21
                  clear c21
                  by_cases c22 : (ji20) < (t170.length : Int)
                  · rw [if_pos c22] at H
                    have c22b0 : decide ((ji20) < (t170.length : Int)) = true := decide_eq_true c22
                    clear c22
                    by_cases c23 : (rd t170 (ji20)) ≥ a1
                    · rw [if_pos c23] at H
                      have c23b0 : decide (a1 ≤ (rd t170 (ji20))) = true := decide_eq_true c23
                      clear c23
                      obtain rfl := Option.some.inj H
                      have hcz24_0 : wc.cell? ⟨gb169, 0, none⟩ = some (.int .i64 a0_0) := (blk_cell BK169.out 0).trans rfl
                      have hcz24_1 : wc.cell? ⟨gb169, 1, none⟩ = some (.int .u8 a0_1) := (blk_cell BK169.out 1).trans rfl
                      have hcz24_2 : wc.cell? ⟨gb169, 2, none⟩ = some (.int .i64 a0_2) := (blk_cell BK169.out 2).trans rfl
                      have hfz24_0 := blk_frozen BK169.out 0
                      have hfz24_1 := blk_frozen BK169.out 1
                      have hfz24_2 := blk_frozen BK169.out 2
                      go_wp2_with (first | ((with_reducible refine gate_callee (f := 41) rfl ?_); refine goesL_ (some 37) rfl rfl Try.func41 (by kernel_rfl) rfl #[.int .u8 a0_1] rfl (by (try simp only [List.map_toArray, List.map_cons, List.map_nil]); first | done | rfl | (simp only [List.length_drop, List.length_take]; rfl)) ?_; (with_reducible refine (messuageref01_List.calls kj6 a0_1 t170 _ A18.out).mono ?_); rintro e w25 ⟨v171, rfl, ho0, hb⟩; refine ⟨_, rfl, ?_⟩; have n0_ := Aside0.mk (Kd.R_lower ho0 (below_size (by repeat (first | (with_reducible first | exact HB.out | apply below_alloc | apply pw_below_drewN | apply below_drew1 | refine below_set ?_ GE169.out) | exact HB.out)))); have n1_ := Aside0.mk (blk_below (g := gb169) (o := .cells #[.int .i64 a0_0, .int .u8 a0_1, .int .i64 a0_2] 49 (0, 0)) (by (with_reducible repeat (first | refine blk_drewN ?_ _ | refine blk_drew ?_ | refine blk_alloc ?_ _)); exact BK169.out) hb); have n2_ := Aside0.mk (below_step (by repeat (first | (with_reducible first | exact HB.out | apply below_alloc | apply pw_below_drewN | apply below_drew1 | refine below_set ?_ GE169.out) | exact HB.out)) hb); clear BK169; clear HB; have HO172 := n0_; have BK169 := n1_; have HB := n2_; clear n0_ n1_ n2_; (try clear hb); (try clear hb2); (try clear hk); (try clear hi); (try clear ho0); have hcz26_0 : w25.cell? ⟨gb169, 0, none⟩ = some (.int .i64 a0_0) := (blk_cell BK169.out 0).trans rfl; have hcz26_1 : w25.cell? ⟨gb169, 1, none⟩ = some (.int .u8 a0_1) := (blk_cell BK169.out 1).trans rfl; have hcz26_2 : w25.cell? ⟨gb169, 2, none⟩ = some (.int .i64 a0_2) := (blk_cell BK169.out 2).trans rfl; have hfz26_0 := blk_frozen BK169.out 0; have hfz26_1 := blk_frozen BK169.out 1; have hfz26_2 := blk_frozen BK169.out 2; obtain ⟨Ao27, co27, eo27⟩ := Kd.R_slice HO172.out; subst eo27; have p173 : 0 ≤ ((ji20) : Int) := of_decide_eq_true (by first | (with_reducible assumption) | assumption); have q173 : (ji20) < (t170.length : Int) := of_decide_eq_true (by first | (with_reducible assumption) | assumption); obtain ⟨ad173, e173, hx173_0⟩ := Kd.at_int (Kd.R_reads' HO172.out).2.2 (ji20) p173 q173; cases e173; replace p173 := eq_true p173; replace q173 := eq_true q173))
                      go_ret
                      exact ⟨by first | rfl | (simp [errW_none, errW_some] <;> rfl) | (simp only [← hji20]; first | rfl | (simp [errW_none, errW_some] <;> rfl)) | (simp [*, errW_none, errW_some] <;> rfl), by repeat (first | (with_reducible first | exact HB.out | apply below_alloc | apply pw_below_drewN | apply below_drew1 | refine below_set ?_ GE169.out) | exact HB.out)⟩
                    · rw [if_neg c23] at H
                      have c23b0 : decide (a1 ≤ (rd t170 (ji20))) = false := decide_eq_false c23
                      clear c23
                      by_cases c28 : a0_0 = 3
                      · rw [if_pos c28] at H
                        have c28b0 : (a0_0 == 3) = true := beq_iff_eq.mpr c28
                        have c28b1 : (a0_0 != 3) = false := bne_eq_false_iff_eq.mpr c28
                        clear c28
                        by_cases c29 : a0_2 < 0
                        · rw [if_pos c29] at H
                          have c29b0 : decide (a0_2 < 0) = true := decide_eq_true c29
                          clear c29
                          obtain rfl := Option.some.inj H
                          have hcz30_0 : wc.cell? ⟨gb169, 0, none⟩ = some (.int .i64 a0_0) := (blk_cell BK169.out 0).trans rfl
                          have hcz30_1 : wc.cell? ⟨gb169, 1, none⟩ = some (.int .u8 a0_1) := (blk_cell BK169.out 1).trans rfl
                          have hcz30_2 : wc.cell? ⟨gb169, 2, none⟩ = some (.int .i64 a0_2) := (blk_cell BK169.out 2).trans rfl
                          have hfz30_0 := blk_frozen BK169.out 0
                          have hfz30_1 := blk_frozen BK169.out 1
                          have hfz30_2 := blk_frozen BK169.out 2
                          go_wp2_with (first | ((with_reducible refine gate_callee (f := 41) rfl ?_); refine goesL_ (some 37) rfl rfl Try.func41 (by kernel_rfl) rfl #[.int .u8 a0_1] rfl (by (try simp only [List.map_toArray, List.map_cons, List.map_nil]); first | done | rfl | (simp only [List.length_drop, List.length_take]; rfl)) ?_; (with_reducible refine (messuageref01_List.calls kj6 a0_1 t170 _ A18.out).mono ?_); rintro e w31 ⟨v171, rfl, ho0, hb⟩; refine ⟨_, rfl, ?_⟩; have n0_ := Aside0.mk (Kd.R_lower ho0 (below_size (by repeat (first | (with_reducible first | exact HB.out | apply below_alloc | apply pw_below_drewN | apply below_drew1 | refine below_set ?_ GE169.out) | exact HB.out)))); have n1_ := Aside0.mk (blk_below (g := gb169) (o := .cells #[.int .i64 a0_0, .int .u8 a0_1, .int .i64 a0_2] 49 (0, 0)) (by (with_reducible repeat (first | refine blk_drewN ?_ _ | refine blk_drew ?_ | refine blk_alloc ?_ _)); exact BK169.out) hb); have n2_ := Aside0.mk (below_step (by repeat (first | (with_reducible first | exact HB.out | apply below_alloc | apply pw_below_drewN | apply below_drew1 | refine below_set ?_ GE169.out) | exact HB.out)) hb); clear BK169; clear HB; have HO172 := n0_; have BK169 := n1_; have HB := n2_; clear n0_ n1_ n2_; (try clear hb); (try clear hb2); (try clear hk); (try clear hi); (try clear ho0); have hcz32_0 : w31.cell? ⟨gb169, 0, none⟩ = some (.int .i64 a0_0) := (blk_cell BK169.out 0).trans rfl; have hcz32_1 : w31.cell? ⟨gb169, 1, none⟩ = some (.int .u8 a0_1) := (blk_cell BK169.out 1).trans rfl; have hcz32_2 : w31.cell? ⟨gb169, 2, none⟩ = some (.int .i64 a0_2) := (blk_cell BK169.out 2).trans rfl; have hfz32_0 := blk_frozen BK169.out 0; have hfz32_1 := blk_frozen BK169.out 1; have hfz32_2 := blk_frozen BK169.out 2; obtain ⟨Ao33, co33, eo33⟩ := Kd.R_slice HO172.out; subst eo33; have p173 : 0 ≤ ((ji20) : Int) := of_decide_eq_true (by first | (with_reducible assumption) | assumption); have q173 : (ji20) < (t170.length : Int) := of_decide_eq_true (by first | (with_reducible assumption) | assumption); obtain ⟨ad173, e173, hx173_0⟩ := Kd.at_int (Kd.R_reads' HO172.out).2.2 (ji20) p173 q173; cases e173; replace p173 := eq_true p173; replace q173 := eq_true q173))
                          go_ret
                          exact ⟨by first | rfl | (simp [errW_none, errW_some] <;> rfl) | (simp only [← hji20]; first | rfl | (simp [errW_none, errW_some] <;> rfl)) | (simp [*, errW_none, errW_some] <;> rfl), by repeat (first | (with_reducible first | exact HB.out | apply below_alloc | apply pw_below_drewN | apply below_drew1 | refine below_set ?_ GE169.out) | exact HB.out)⟩
                        · rw [if_neg c29] at H
                          have c29b0 : decide (a0_2 < 0) = false := decide_eq_false c29
                          clear c29
                          by_cases c34 : a0_2 ≥ a1
                          · rw [if_pos c34] at H
                            have c34b0 : decide (a1 ≤ a0_2) = true := decide_eq_true c34
                            clear c34
                            obtain rfl := Option.some.inj H
                            have hcz35_0 : wc.cell? ⟨gb169, 0, none⟩ = some (.int .i64 a0_0) := (blk_cell BK169.out 0).trans rfl
                            have hcz35_1 : wc.cell? ⟨gb169, 1, none⟩ = some (.int .u8 a0_1) := (blk_cell BK169.out 1).trans rfl
                            have hcz35_2 : wc.cell? ⟨gb169, 2, none⟩ = some (.int .i64 a0_2) := (blk_cell BK169.out 2).trans rfl
                            have hfz35_0 := blk_frozen BK169.out 0
                            have hfz35_1 := blk_frozen BK169.out 1
                            have hfz35_2 := blk_frozen BK169.out 2
                            go_wp2_with (first | ((with_reducible refine gate_callee (f := 41) rfl ?_); refine goesL_ (some 37) rfl rfl Try.func41 (by kernel_rfl) rfl #[.int .u8 a0_1] rfl (by (try simp only [List.map_toArray, List.map_cons, List.map_nil]); first | done | rfl | (simp only [List.length_drop, List.length_take]; rfl)) ?_; (with_reducible refine (messuageref01_List.calls kj6 a0_1 t170 _ A18.out).mono ?_); rintro e w36 ⟨v171, rfl, ho0, hb⟩; refine ⟨_, rfl, ?_⟩; have n0_ := Aside0.mk (Kd.R_lower ho0 (below_size (by repeat (first | (with_reducible first | exact HB.out | apply below_alloc | apply pw_below_drewN | apply below_drew1 | refine below_set ?_ GE169.out) | exact HB.out)))); have n1_ := Aside0.mk (blk_below (g := gb169) (o := .cells #[.int .i64 a0_0, .int .u8 a0_1, .int .i64 a0_2] 49 (0, 0)) (by (with_reducible repeat (first | refine blk_drewN ?_ _ | refine blk_drew ?_ | refine blk_alloc ?_ _)); exact BK169.out) hb); have n2_ := Aside0.mk (below_step (by repeat (first | (with_reducible first | exact HB.out | apply below_alloc | apply pw_below_drewN | apply below_drew1 | refine below_set ?_ GE169.out) | exact HB.out)) hb); clear BK169; clear HB; have HO172 := n0_; have BK169 := n1_; have HB := n2_; clear n0_ n1_ n2_; (try clear hb); (try clear hb2); (try clear hk); (try clear hi); (try clear ho0); have hcz37_0 : w36.cell? ⟨gb169, 0, none⟩ = some (.int .i64 a0_0) := (blk_cell BK169.out 0).trans rfl; have hcz37_1 : w36.cell? ⟨gb169, 1, none⟩ = some (.int .u8 a0_1) := (blk_cell BK169.out 1).trans rfl; have hcz37_2 : w36.cell? ⟨gb169, 2, none⟩ = some (.int .i64 a0_2) := (blk_cell BK169.out 2).trans rfl; have hfz37_0 := blk_frozen BK169.out 0; have hfz37_1 := blk_frozen BK169.out 1; have hfz37_2 := blk_frozen BK169.out 2; obtain ⟨Ao38, co38, eo38⟩ := Kd.R_slice HO172.out; subst eo38; have p173 : 0 ≤ ((ji20) : Int) := of_decide_eq_true (by first | (with_reducible assumption) | assumption); have q173 : (ji20) < (t170.length : Int) := of_decide_eq_true (by first | (with_reducible assumption) | assumption); obtain ⟨ad173, e173, hx173_0⟩ := Kd.at_int (Kd.R_reads' HO172.out).2.2 (ji20) p173 q173; cases e173; replace p173 := eq_true p173; replace q173 := eq_true q173))
                            go_ret
                            exact ⟨by first | rfl | (simp [errW_none, errW_some] <;> rfl) | (simp only [← hji20]; first | rfl | (simp [errW_none, errW_some] <;> rfl)) | (simp [*, errW_none, errW_some] <;> rfl), by repeat (first | (with_reducible first | exact HB.out | apply below_alloc | apply pw_below_drewN | apply below_drew1 | refine below_set ?_ GE169.out) | exact HB.out)⟩
                          · rw [if_neg c34] at H
                            have c34b0 : decide (a1 ≤ a0_2) = false := decide_eq_false c34
                            clear c34
                            obtain rfl := Option.some.inj H
                            have hcz39_0 : wc.cell? ⟨gb169, 0, none⟩ = some (.int .i64 a0_0) := (blk_cell BK169.out 0).trans rfl
                            have hcz39_1 : wc.cell? ⟨gb169, 1, none⟩ = some (.int .u8 a0_1) := (blk_cell BK169.out 1).trans rfl
                            have hcz39_2 : wc.cell? ⟨gb169, 2, none⟩ = some (.int .i64 a0_2) := (blk_cell BK169.out 2).trans rfl
                            have hfz39_0 := blk_frozen BK169.out 0
                            have hfz39_1 := blk_frozen BK169.out 1
                            have hfz39_2 := blk_frozen BK169.out 2
                            go_wp2_with (first | ((with_reducible refine gate_callee (f := 41) rfl ?_); refine goesL_ (some 37) rfl rfl Try.func41 (by kernel_rfl) rfl #[.int .u8 a0_1] rfl (by (try simp only [List.map_toArray, List.map_cons, List.map_nil]); first | done | rfl | (simp only [List.length_drop, List.length_take]; rfl)) ?_; (with_reducible refine (messuageref01_List.calls kj6 a0_1 t170 _ A18.out).mono ?_); rintro e w40 ⟨v171, rfl, ho0, hb⟩; refine ⟨_, rfl, ?_⟩; have n0_ := Aside0.mk (Kd.R_lower ho0 (below_size (by repeat (first | (with_reducible first | exact HB.out | apply below_alloc | apply pw_below_drewN | apply below_drew1 | refine below_set ?_ GE169.out) | exact HB.out)))); have n1_ := Aside0.mk (blk_below (g := gb169) (o := .cells #[.int .i64 a0_0, .int .u8 a0_1, .int .i64 a0_2] 49 (0, 0)) (by (with_reducible repeat (first | refine blk_drewN ?_ _ | refine blk_drew ?_ | refine blk_alloc ?_ _)); exact BK169.out) hb); have n2_ := Aside0.mk (below_step (by repeat (first | (with_reducible first | exact HB.out | apply below_alloc | apply pw_below_drewN | apply below_drew1 | refine below_set ?_ GE169.out) | exact HB.out)) hb); clear BK169; clear HB; have HO172 := n0_; have BK169 := n1_; have HB := n2_; clear n0_ n1_ n2_; (try clear hb); (try clear hb2); (try clear hk); (try clear hi); (try clear ho0); have hcz41_0 : w40.cell? ⟨gb169, 0, none⟩ = some (.int .i64 a0_0) := (blk_cell BK169.out 0).trans rfl; have hcz41_1 : w40.cell? ⟨gb169, 1, none⟩ = some (.int .u8 a0_1) := (blk_cell BK169.out 1).trans rfl; have hcz41_2 : w40.cell? ⟨gb169, 2, none⟩ = some (.int .i64 a0_2) := (blk_cell BK169.out 2).trans rfl; have hfz41_0 := blk_frozen BK169.out 0; have hfz41_1 := blk_frozen BK169.out 1; have hfz41_2 := blk_frozen BK169.out 2; obtain ⟨Ao42, co42, eo42⟩ := Kd.R_slice HO172.out; subst eo42; have p173 : 0 ≤ ((ji20) : Int) := of_decide_eq_true (by first | (with_reducible assumption) | assumption); have q173 : (ji20) < (t170.length : Int) := of_decide_eq_true (by first | (with_reducible assumption) | assumption); obtain ⟨ad173, e173, hx173_0⟩ := Kd.at_int (Kd.R_reads' HO172.out).2.2 (ji20) p173 q173; cases e173; replace p173 := eq_true p173; replace q173 := eq_true q173))
                            go_ret
                            exact ⟨by first | rfl | (simp [errW_none, errW_some] <;> rfl) | (simp only [← hji20]; first | rfl | (simp [errW_none, errW_some] <;> rfl)) | (simp [*, errW_none, errW_some] <;> rfl), by repeat (first | (with_reducible first | exact HB.out | apply below_alloc | apply pw_below_drewN | apply below_drew1 | refine below_set ?_ GE169.out) | exact HB.out)⟩
                      · rw [if_neg c28] at H
                        have c28b0 : (a0_0 == 3) = false := beq_eq_false_iff_ne.mpr c28
                        have c28b1 : (a0_0 != 3) = true := bne_iff_ne.mpr c28
                        obtain rfl := Option.some.inj H
                        have hcz43_0 : wc.cell? ⟨gb169, 0, none⟩ = some (.int .i64 a0_0) := (blk_cell BK169.out 0).trans rfl
                        have hcz43_1 : wc.cell? ⟨gb169, 1, none⟩ = some (.int .u8 a0_1) := (blk_cell BK169.out 1).trans rfl
                        have hcz43_2 : wc.cell? ⟨gb169, 2, none⟩ = some (.int .i64 a0_2) := (blk_cell BK169.out 2).trans rfl
                        have hfz43_0 := blk_frozen BK169.out 0
                        have hfz43_1 := blk_frozen BK169.out 1
                        have hfz43_2 := blk_frozen BK169.out 2
                        go_wp2_with (first | ((with_reducible refine gate_callee (f := 41) rfl ?_); refine goesL_ (some 37) rfl rfl Try.func41 (by kernel_rfl) rfl #[.int .u8 a0_1] rfl (by (try simp only [List.map_toArray, List.map_cons, List.map_nil]); first | done | rfl | (simp only [List.length_drop, List.length_take]; rfl)) ?_; (with_reducible refine (messuageref01_List.calls kj6 a0_1 t170 _ A18.out).mono ?_); rintro e w44 ⟨v171, rfl, ho0, hb⟩; refine ⟨_, rfl, ?_⟩; have n0_ := Aside0.mk (Kd.R_lower ho0 (below_size (by repeat (first | (with_reducible first | exact HB.out | apply below_alloc | apply pw_below_drewN | apply below_drew1 | refine below_set ?_ GE169.out) | exact HB.out)))); have n1_ := Aside0.mk (blk_below (g := gb169) (o := .cells #[.int .i64 a0_0, .int .u8 a0_1, .int .i64 a0_2] 49 (0, 0)) (by (with_reducible repeat (first | refine blk_drewN ?_ _ | refine blk_drew ?_ | refine blk_alloc ?_ _)); exact BK169.out) hb); have n2_ := Aside0.mk (below_step (by repeat (first | (with_reducible first | exact HB.out | apply below_alloc | apply pw_below_drewN | apply below_drew1 | refine below_set ?_ GE169.out) | exact HB.out)) hb); clear BK169; clear HB; have HO172 := n0_; have BK169 := n1_; have HB := n2_; clear n0_ n1_ n2_; (try clear hb); (try clear hb2); (try clear hk); (try clear hi); (try clear ho0); have hcz45_0 : w44.cell? ⟨gb169, 0, none⟩ = some (.int .i64 a0_0) := (blk_cell BK169.out 0).trans rfl; have hcz45_1 : w44.cell? ⟨gb169, 1, none⟩ = some (.int .u8 a0_1) := (blk_cell BK169.out 1).trans rfl; have hcz45_2 : w44.cell? ⟨gb169, 2, none⟩ = some (.int .i64 a0_2) := (blk_cell BK169.out 2).trans rfl; have hfz45_0 := blk_frozen BK169.out 0; have hfz45_1 := blk_frozen BK169.out 1; have hfz45_2 := blk_frozen BK169.out 2; obtain ⟨Ao46, co46, eo46⟩ := Kd.R_slice HO172.out; subst eo46; have p173 : 0 ≤ ((ji20) : Int) := of_decide_eq_true (by first | (with_reducible assumption) | assumption); have q173 : (ji20) < (t170.length : Int) := of_decide_eq_true (by first | (with_reducible assumption) | assumption); obtain ⟨ad173, e173, hx173_0⟩ := Kd.at_int (Kd.R_reads' HO172.out).2.2 (ji20) p173 q173; cases e173; replace p173 := eq_true p173; replace q173 := eq_true q173))
                        go_ret
                        exact ⟨by first | rfl | (simp [errW_none, errW_some] <;> rfl) | (simp only [← hji20]; first | rfl | (simp [errW_none, errW_some] <;> rfl)) | (simp [*, errW_none, errW_some] <;> rfl), by repeat (first | (with_reducible first | exact HB.out | apply below_alloc | apply pw_below_drewN | apply below_drew1 | refine below_set ?_ GE169.out) | exact HB.out)⟩
                  · rw [if_neg c22] at H
                    exact absurd H (by simp)
                · rw [if_neg c21] at H
                  exact absurd H (by simp)
              · rw [if_neg c19] at H
                have c19b0 : (a0_0 == 1) = false := beq_eq_false_iff_ne.mpr c19
                have c19b1 : (a0_0 != 1) = true := bne_iff_ne.mpr c19
                by_cases c47 : a0_0 = 2
                · rw [if_pos c47] at H
                  have c47b0 : (a0_0 == 2) = true := beq_iff_eq.mpr c47
                  have c47b1 : (a0_0 != 2) = false := bne_eq_false_iff_eq.mpr c47
                  clear c47
                  obtain ⟨ji48, hji48⟩ : ∃ j_ : Int, (wrap64 ((t170.length : Int) - 1)) = j_ := ⟨_, rfl⟩
                  replace H : (if 0 ≤ (ji48) then (if (ji48) < (t170.length : Int) then (if (rd t170 (ji48)) ≥ a1 then (some 10) else (if a0_0 = 3 then (if a0_2 < 0 then (some 10) else (if a0_2 ≥ a1 then (some 10) else (some 0))) else (some 0))) else (none)) else (none)) = some r := by first | (rw [hji48] at H; exact H) | (simp only [hji48] at H ⊢; exact H)
                  (try rw [hji48] at A18)
                  have hji48w : (IntKind.i64.wrap ((t170.length : Int) - 1)) = ji48 := (i64_w _).trans hji48
                  by_cases c49 : 0 ≤ (ji48)
                  · rw [if_pos c49] at H
                    have c49b0 : decide (0 ≤ (ji48)) = true := decide_eq_true c49
                    clear c49
                    by_cases c50 : (ji48) < (t170.length : Int)
                    · rw [if_pos c50] at H
                      have c50b0 : decide ((ji48) < (t170.length : Int)) = true := decide_eq_true c50
                      clear c50
                      by_cases c51 : (rd t170 (ji48)) ≥ a1
                      · rw [if_pos c51] at H
                        have c51b0 : decide (a1 ≤ (rd t170 (ji48))) = true := decide_eq_true c51
                        clear c51
                        obtain rfl := Option.some.inj H
                        have hcz52_0 : wc.cell? ⟨gb169, 0, none⟩ = some (.int .i64 a0_0) := (blk_cell BK169.out 0).trans rfl
                        have hcz52_1 : wc.cell? ⟨gb169, 1, none⟩ = some (.int .u8 a0_1) := (blk_cell BK169.out 1).trans rfl
                        have hcz52_2 : wc.cell? ⟨gb169, 2, none⟩ = some (.int .i64 a0_2) := (blk_cell BK169.out 2).trans rfl
                        have hfz52_0 := blk_frozen BK169.out 0
                        have hfz52_1 := blk_frozen BK169.out 1
                        have hfz52_2 := blk_frozen BK169.out 2
                        go_wp2_with (first | ((with_reducible refine gate_callee (f := 41) rfl ?_); refine goesL_ (some 37) rfl rfl Try.func41 (by kernel_rfl) rfl #[.int .u8 a0_1] rfl (by (try simp only [List.map_toArray, List.map_cons, List.map_nil]); first | done | rfl | (simp only [List.length_drop, List.length_take]; rfl)) ?_; (with_reducible refine (messuageref01_List.calls kj6 a0_1 t170 _ A18.out).mono ?_); rintro e w53 ⟨v171, rfl, ho0, hb⟩; refine ⟨_, rfl, ?_⟩; have n0_ := Aside0.mk (Kd.R_lower ho0 (below_size (by repeat (first | (with_reducible first | exact HB.out | apply below_alloc | apply pw_below_drewN | apply below_drew1 | refine below_set ?_ GE169.out) | exact HB.out)))); have n1_ := Aside0.mk (blk_below (g := gb169) (o := .cells #[.int .i64 a0_0, .int .u8 a0_1, .int .i64 a0_2] 49 (0, 0)) (by (with_reducible repeat (first | refine blk_drewN ?_ _ | refine blk_drew ?_ | refine blk_alloc ?_ _)); exact BK169.out) hb); have n2_ := Aside0.mk (below_step (by repeat (first | (with_reducible first | exact HB.out | apply below_alloc | apply pw_below_drewN | apply below_drew1 | refine below_set ?_ GE169.out) | exact HB.out)) hb); clear BK169; clear HB; have HO172 := n0_; have BK169 := n1_; have HB := n2_; clear n0_ n1_ n2_; (try clear hb); (try clear hb2); (try clear hk); (try clear hi); (try clear ho0); have hcz54_0 : w53.cell? ⟨gb169, 0, none⟩ = some (.int .i64 a0_0) := (blk_cell BK169.out 0).trans rfl; have hcz54_1 : w53.cell? ⟨gb169, 1, none⟩ = some (.int .u8 a0_1) := (blk_cell BK169.out 1).trans rfl; have hcz54_2 : w53.cell? ⟨gb169, 2, none⟩ = some (.int .i64 a0_2) := (blk_cell BK169.out 2).trans rfl; have hfz54_0 := blk_frozen BK169.out 0; have hfz54_1 := blk_frozen BK169.out 1; have hfz54_2 := blk_frozen BK169.out 2; obtain ⟨Ao55, co55, eo55⟩ := Kd.R_slice HO172.out; subst eo55; have p174 : 0 ≤ ((ji48) : Int) := of_decide_eq_true (by first | (with_reducible assumption) | assumption); have q174 : (ji48) < (t170.length : Int) := of_decide_eq_true (by first | (with_reducible assumption) | assumption); obtain ⟨ad174, e174, hx174_0⟩ := Kd.at_int (Kd.R_reads' HO172.out).2.2 (ji48) p174 q174; cases e174; replace p174 := eq_true p174; replace q174 := eq_true q174))
                        go_ret
                        exact ⟨by first | rfl | (simp [errW_none, errW_some] <;> rfl) | (simp only [← hji48]; first | rfl | (simp [errW_none, errW_some] <;> rfl)) | (simp [*, errW_none, errW_some] <;> rfl), by repeat (first | (with_reducible first | exact HB.out | apply below_alloc | apply pw_below_drewN | apply below_drew1 | refine below_set ?_ GE169.out) | exact HB.out)⟩
                      · rw [if_neg c51] at H
                        have c51b0 : decide (a1 ≤ (rd t170 (ji48))) = false := decide_eq_false c51
                        clear c51
                        by_cases c56 : a0_0 = 3
                        · rw [if_pos c56] at H
                          have c56b0 : (a0_0 == 3) = true := beq_iff_eq.mpr c56
                          have c56b1 : (a0_0 != 3) = false := bne_eq_false_iff_eq.mpr c56
                          clear c56
                          by_cases c57 : a0_2 < 0
                          · rw [if_pos c57] at H
                            have c57b0 : decide (a0_2 < 0) = true := decide_eq_true c57
                            clear c57
                            obtain rfl := Option.some.inj H
                            have hcz58_0 : wc.cell? ⟨gb169, 0, none⟩ = some (.int .i64 a0_0) := (blk_cell BK169.out 0).trans rfl
                            have hcz58_1 : wc.cell? ⟨gb169, 1, none⟩ = some (.int .u8 a0_1) := (blk_cell BK169.out 1).trans rfl
                            have hcz58_2 : wc.cell? ⟨gb169, 2, none⟩ = some (.int .i64 a0_2) := (blk_cell BK169.out 2).trans rfl
                            have hfz58_0 := blk_frozen BK169.out 0
                            have hfz58_1 := blk_frozen BK169.out 1
                            have hfz58_2 := blk_frozen BK169.out 2
                            go_wp2_with (first | ((with_reducible refine gate_callee (f := 41) rfl ?_); refine goesL_ (some 37) rfl rfl Try.func41 (by kernel_rfl) rfl #[.int .u8 a0_1] rfl (by (try simp only [List.map_toArray, List.map_cons, List.map_nil]); first | done | rfl | (simp only [List.length_drop, List.length_take]; rfl)) ?_; (with_reducible refine (messuageref01_List.calls kj6 a0_1 t170 _ A18.out).mono ?_); rintro e w59 ⟨v171, rfl, ho0, hb⟩; refine ⟨_, rfl, ?_⟩; have n0_ := Aside0.mk (Kd.R_lower ho0 (below_size (by repeat (first | (with_reducible first | exact HB.out | apply below_alloc | apply pw_below_drewN | apply below_drew1 | refine below_set ?_ GE169.out) | exact HB.out)))); have n1_ := Aside0.mk (blk_below (g := gb169) (o := .cells #[.int .i64 a0_0, .int .u8 a0_1, .int .i64 a0_2] 49 (0, 0)) (by (with_reducible repeat (first | refine blk_drewN ?_ _ | refine blk_drew ?_ | refine blk_alloc ?_ _)); exact BK169.out) hb); have n2_ := Aside0.mk (below_step (by repeat (first | (with_reducible first | exact HB.out | apply below_alloc | apply pw_below_drewN | apply below_drew1 | refine below_set ?_ GE169.out) | exact HB.out)) hb); clear BK169; clear HB; have HO172 := n0_; have BK169 := n1_; have HB := n2_; clear n0_ n1_ n2_; (try clear hb); (try clear hb2); (try clear hk); (try clear hi); (try clear ho0); have hcz60_0 : w59.cell? ⟨gb169, 0, none⟩ = some (.int .i64 a0_0) := (blk_cell BK169.out 0).trans rfl; have hcz60_1 : w59.cell? ⟨gb169, 1, none⟩ = some (.int .u8 a0_1) := (blk_cell BK169.out 1).trans rfl; have hcz60_2 : w59.cell? ⟨gb169, 2, none⟩ = some (.int .i64 a0_2) := (blk_cell BK169.out 2).trans rfl; have hfz60_0 := blk_frozen BK169.out 0; have hfz60_1 := blk_frozen BK169.out 1; have hfz60_2 := blk_frozen BK169.out 2; obtain ⟨Ao61, co61, eo61⟩ := Kd.R_slice HO172.out; subst eo61; have p174 : 0 ≤ ((ji48) : Int) := of_decide_eq_true (by first | (with_reducible assumption) | assumption); have q174 : (ji48) < (t170.length : Int) := of_decide_eq_true (by first | (with_reducible assumption) | assumption); obtain ⟨ad174, e174, hx174_0⟩ := Kd.at_int (Kd.R_reads' HO172.out).2.2 (ji48) p174 q174; cases e174; replace p174 := eq_true p174; replace q174 := eq_true q174))
                            go_ret
                            exact ⟨by first | rfl | (simp [errW_none, errW_some] <;> rfl) | (simp only [← hji48]; first | rfl | (simp [errW_none, errW_some] <;> rfl)) | (simp [*, errW_none, errW_some] <;> rfl), by repeat (first | (with_reducible first | exact HB.out | apply below_alloc | apply pw_below_drewN | apply below_drew1 | refine below_set ?_ GE169.out) | exact HB.out)⟩
                          · rw [if_neg c57] at H
                            have c57b0 : decide (a0_2 < 0) = false := decide_eq_false c57
                            clear c57
                            by_cases c62 : a0_2 ≥ a1
                            · rw [if_pos c62] at H
                              have c62b0 : decide (a1 ≤ a0_2) = true := decide_eq_true c62
                              clear c62
                              obtain rfl := Option.some.inj H
                              have hcz63_0 : wc.cell? ⟨gb169, 0, none⟩ = some (.int .i64 a0_0) := (blk_cell BK169.out 0).trans rfl
                              have hcz63_1 : wc.cell? ⟨gb169, 1, none⟩ = some (.int .u8 a0_1) := (blk_cell BK169.out 1).trans rfl
                              have hcz63_2 : wc.cell? ⟨gb169, 2, none⟩ = some (.int .i64 a0_2) := (blk_cell BK169.out 2).trans rfl
                              have hfz63_0 := blk_frozen BK169.out 0
                              have hfz63_1 := blk_frozen BK169.out 1
                              have hfz63_2 := blk_frozen BK169.out 2
                              go_wp2_with (first | ((with_reducible refine gate_callee (f := 41) rfl ?_); refine goesL_ (some 37) rfl rfl Try.func41 (by kernel_rfl) rfl #[.int .u8 a0_1] rfl (by (try simp only [List.map_toArray, List.map_cons, List.map_nil]); first | done | rfl | (simp only [List.length_drop, List.length_take]; rfl)) ?_; (with_reducible refine (messuageref01_List.calls kj6 a0_1 t170 _ A18.out).mono ?_); rintro e w64 ⟨v171, rfl, ho0, hb⟩; refine ⟨_, rfl, ?_⟩; have n0_ := Aside0.mk (Kd.R_lower ho0 (below_size (by repeat (first | (with_reducible first | exact HB.out | apply below_alloc | apply pw_below_drewN | apply below_drew1 | refine below_set ?_ GE169.out) | exact HB.out)))); have n1_ := Aside0.mk (blk_below (g := gb169) (o := .cells #[.int .i64 a0_0, .int .u8 a0_1, .int .i64 a0_2] 49 (0, 0)) (by (with_reducible repeat (first | refine blk_drewN ?_ _ | refine blk_drew ?_ | refine blk_alloc ?_ _)); exact BK169.out) hb); have n2_ := Aside0.mk (below_step (by repeat (first | (with_reducible first | exact HB.out | apply below_alloc | apply pw_below_drewN | apply below_drew1 | refine below_set ?_ GE169.out) | exact HB.out)) hb); clear BK169; clear HB; have HO172 := n0_; have BK169 := n1_; have HB := n2_; clear n0_ n1_ n2_; (try clear hb); (try clear hb2); (try clear hk); (try clear hi); (try clear ho0); have hcz65_0 : w64.cell? ⟨gb169, 0, none⟩ = some (.int .i64 a0_0) := (blk_cell BK169.out 0).trans rfl; have hcz65_1 : w64.cell? ⟨gb169, 1, none⟩ = some (.int .u8 a0_1) := (blk_cell BK169.out 1).trans rfl; have hcz65_2 : w64.cell? ⟨gb169, 2, none⟩ = some (.int .i64 a0_2) := (blk_cell BK169.out 2).trans rfl; have hfz65_0 := blk_frozen BK169.out 0; have hfz65_1 := blk_frozen BK169.out 1; have hfz65_2 := blk_frozen BK169.out 2; obtain ⟨Ao66, co66, eo66⟩ := Kd.R_slice HO172.out; subst eo66; have p174 : 0 ≤ ((ji48) : Int) := of_decide_eq_true (by first | (with_reducible assumption) | assumption); have q174 : (ji48) < (t170.length : Int) := of_decide_eq_true (by first | (with_reducible assumption) | assumption); obtain ⟨ad174, e174, hx174_0⟩ := Kd.at_int (Kd.R_reads' HO172.out).2.2 (ji48) p174 q174; cases e174; replace p174 := eq_true p174; replace q174 := eq_true q174))
                              go_ret
                              exact ⟨by first | rfl | (simp [errW_none, errW_some] <;> rfl) | (simp only [← hji48]; first | rfl | (simp [errW_none, errW_some] <;> rfl)) | (simp [*, errW_none, errW_some] <;> rfl), by repeat (first | (with_reducible first | exact HB.out | apply below_alloc | apply pw_below_drewN | apply below_drew1 | refine below_set ?_ GE169.out) | exact HB.out)⟩
                            · rw [if_neg c62] at H
                              have c62b0 : decide (a1 ≤ a0_2) = false := decide_eq_false c62
                              clear c62
                              obtain rfl := Option.some.inj H
                              have hcz67_0 : wc.cell? ⟨gb169, 0, none⟩ = some (.int .i64 a0_0) := (blk_cell BK169.out 0).trans rfl
                              have hcz67_1 : wc.cell? ⟨gb169, 1, none⟩ = some (.int .u8 a0_1) := (blk_cell BK169.out 1).trans rfl
                              have hcz67_2 : wc.cell? ⟨gb169, 2, none⟩ = some (.int .i64 a0_2) := (blk_cell BK169.out 2).trans rfl
                              have hfz67_0 := blk_frozen BK169.out 0
                              have hfz67_1 := blk_frozen BK169.out 1
                              have hfz67_2 := blk_frozen BK169.out 2
                              go_wp2_with (first | ((with_reducible refine gate_callee (f := 41) rfl ?_); refine goesL_ (some 37) rfl rfl Try.func41 (by kernel_rfl) rfl #[.int .u8 a0_1] rfl (by (try simp only [List.map_toArray, List.map_cons, List.map_nil]); first | done | rfl | (simp only [List.length_drop, List.length_take]; rfl)) ?_; (with_reducible refine (messuageref01_List.calls kj6 a0_1 t170 _ A18.out).mono ?_); rintro e w68 ⟨v171, rfl, ho0, hb⟩; refine ⟨_, rfl, ?_⟩; have n0_ := Aside0.mk (Kd.R_lower ho0 (below_size (by repeat (first | (with_reducible first | exact HB.out | apply below_alloc | apply pw_below_drewN | apply below_drew1 | refine below_set ?_ GE169.out) | exact HB.out)))); have n1_ := Aside0.mk (blk_below (g := gb169) (o := .cells #[.int .i64 a0_0, .int .u8 a0_1, .int .i64 a0_2] 49 (0, 0)) (by (with_reducible repeat (first | refine blk_drewN ?_ _ | refine blk_drew ?_ | refine blk_alloc ?_ _)); exact BK169.out) hb); have n2_ := Aside0.mk (below_step (by repeat (first | (with_reducible first | exact HB.out | apply below_alloc | apply pw_below_drewN | apply below_drew1 | refine below_set ?_ GE169.out) | exact HB.out)) hb); clear BK169; clear HB; have HO172 := n0_; have BK169 := n1_; have HB := n2_; clear n0_ n1_ n2_; (try clear hb); (try clear hb2); (try clear hk); (try clear hi); (try clear ho0); have hcz69_0 : w68.cell? ⟨gb169, 0, none⟩ = some (.int .i64 a0_0) := (blk_cell BK169.out 0).trans rfl; have hcz69_1 : w68.cell? ⟨gb169, 1, none⟩ = some (.int .u8 a0_1) := (blk_cell BK169.out 1).trans rfl; have hcz69_2 : w68.cell? ⟨gb169, 2, none⟩ = some (.int .i64 a0_2) := (blk_cell BK169.out 2).trans rfl; have hfz69_0 := blk_frozen BK169.out 0; have hfz69_1 := blk_frozen BK169.out 1; have hfz69_2 := blk_frozen BK169.out 2; obtain ⟨Ao70, co70, eo70⟩ := Kd.R_slice HO172.out; subst eo70; have p174 : 0 ≤ ((ji48) : Int) := of_decide_eq_true (by first | (with_reducible assumption) | assumption); have q174 : (ji48) < (t170.length : Int) := of_decide_eq_true (by first | (with_reducible assumption) | assumption); obtain ⟨ad174, e174, hx174_0⟩ := Kd.at_int (Kd.R_reads' HO172.out).2.2 (ji48) p174 q174; cases e174; replace p174 := eq_true p174; replace q174 := eq_true q174))
                              go_ret
                              exact ⟨by first | rfl | (simp [errW_none, errW_some] <;> rfl) | (simp only [← hji48]; first | rfl | (simp [errW_none, errW_some] <;> rfl)) | (simp [*, errW_none, errW_some] <;> rfl), by repeat (first | (with_reducible first | exact HB.out | apply below_alloc | apply pw_below_drewN | apply below_drew1 | refine below_set ?_ GE169.out) | exact HB.out)⟩
                        · rw [if_neg c56] at H
                          have c56b0 : (a0_0 == 3) = false := beq_eq_false_iff_ne.mpr c56
                          have c56b1 : (a0_0 != 3) = true := bne_iff_ne.mpr c56
                          obtain rfl := Option.some.inj H
                          have hcz71_0 : wc.cell? ⟨gb169, 0, none⟩ = some (.int .i64 a0_0) := (blk_cell BK169.out 0).trans rfl
                          have hcz71_1 : wc.cell? ⟨gb169, 1, none⟩ = some (.int .u8 a0_1) := (blk_cell BK169.out 1).trans rfl
                          have hcz71_2 : wc.cell? ⟨gb169, 2, none⟩ = some (.int .i64 a0_2) := (blk_cell BK169.out 2).trans rfl
                          have hfz71_0 := blk_frozen BK169.out 0
                          have hfz71_1 := blk_frozen BK169.out 1
                          have hfz71_2 := blk_frozen BK169.out 2
                          go_wp2_with (first | ((with_reducible refine gate_callee (f := 41) rfl ?_); refine goesL_ (some 37) rfl rfl Try.func41 (by kernel_rfl) rfl #[.int .u8 a0_1] rfl (by (try simp only [List.map_toArray, List.map_cons, List.map_nil]); first | done | rfl | (simp only [List.length_drop, List.length_take]; rfl)) ?_; (with_reducible refine (messuageref01_List.calls kj6 a0_1 t170 _ A18.out).mono ?_); rintro e w72 ⟨v171, rfl, ho0, hb⟩; refine ⟨_, rfl, ?_⟩; have n0_ := Aside0.mk (Kd.R_lower ho0 (below_size (by repeat (first | (with_reducible first | exact HB.out | apply below_alloc | apply pw_below_drewN | apply below_drew1 | refine below_set ?_ GE169.out) | exact HB.out)))); have n1_ := Aside0.mk (blk_below (g := gb169) (o := .cells #[.int .i64 a0_0, .int .u8 a0_1, .int .i64 a0_2] 49 (0, 0)) (by (with_reducible repeat (first | refine blk_drewN ?_ _ | refine blk_drew ?_ | refine blk_alloc ?_ _)); exact BK169.out) hb); have n2_ := Aside0.mk (below_step (by repeat (first | (with_reducible first | exact HB.out | apply below_alloc | apply pw_below_drewN | apply below_drew1 | refine below_set ?_ GE169.out) | exact HB.out)) hb); clear BK169; clear HB; have HO172 := n0_; have BK169 := n1_; have HB := n2_; clear n0_ n1_ n2_; (try clear hb); (try clear hb2); (try clear hk); (try clear hi); (try clear ho0); have hcz73_0 : w72.cell? ⟨gb169, 0, none⟩ = some (.int .i64 a0_0) := (blk_cell BK169.out 0).trans rfl; have hcz73_1 : w72.cell? ⟨gb169, 1, none⟩ = some (.int .u8 a0_1) := (blk_cell BK169.out 1).trans rfl; have hcz73_2 : w72.cell? ⟨gb169, 2, none⟩ = some (.int .i64 a0_2) := (blk_cell BK169.out 2).trans rfl; have hfz73_0 := blk_frozen BK169.out 0; have hfz73_1 := blk_frozen BK169.out 1; have hfz73_2 := blk_frozen BK169.out 2; obtain ⟨Ao74, co74, eo74⟩ := Kd.R_slice HO172.out; subst eo74; have p174 : 0 ≤ ((ji48) : Int) := of_decide_eq_true (by first | (with_reducible assumption) | assumption); have q174 : (ji48) < (t170.length : Int) := of_decide_eq_true (by first | (with_reducible assumption) | assumption); obtain ⟨ad174, e174, hx174_0⟩ := Kd.at_int (Kd.R_reads' HO172.out).2.2 (ji48) p174 q174; cases e174; replace p174 := eq_true p174; replace q174 := eq_true q174))
                          go_ret
                          exact ⟨by first | rfl | (simp [errW_none, errW_some] <;> rfl) | (simp only [← hji48]; first | rfl | (simp [errW_none, errW_some] <;> rfl)) | (simp [*, errW_none, errW_some] <;> rfl), by repeat (first | (with_reducible first | exact HB.out | apply below_alloc | apply pw_below_drewN | apply below_drew1 | refine below_set ?_ GE169.out) | exact HB.out)⟩
                    · rw [if_neg c50] at H
                      exact absurd H (by simp)
                  · rw [if_neg c49] at H
                    exact absurd H (by simp)
                · rw [if_neg c47] at H
                  have c47b0 : (a0_0 == 2) = false := beq_eq_false_iff_ne.mpr c47
                  have c47b1 : (a0_0 != 2) = true := bne_iff_ne.mpr c47
                  by_cases c75 : a0_0 = 3
                  · rw [if_pos c75] at H
                    have c75b0 : (a0_0 == 3) = true := beq_iff_eq.mpr c75
                    have c75b1 : (a0_0 != 3) = false := bne_eq_false_iff_eq.mpr c75
                    clear c75
                    by_cases c76 : a0_2 < 0
                    · rw [if_pos c76] at H
                      have c76b0 : decide (a0_2 < 0) = true := decide_eq_true c76
                      clear c76
                      obtain rfl := Option.some.inj H
                      have hcz77_0 : wc.cell? ⟨gb169, 0, none⟩ = some (.int .i64 a0_0) := (blk_cell BK169.out 0).trans rfl
                      have hcz77_1 : wc.cell? ⟨gb169, 1, none⟩ = some (.int .u8 a0_1) := (blk_cell BK169.out 1).trans rfl
                      have hcz77_2 : wc.cell? ⟨gb169, 2, none⟩ = some (.int .i64 a0_2) := (blk_cell BK169.out 2).trans rfl
                      have hfz77_0 := blk_frozen BK169.out 0
                      have hfz77_1 := blk_frozen BK169.out 1
                      have hfz77_2 := blk_frozen BK169.out 2
                      go_wp2_with (first | ((with_reducible refine gate_callee (f := 41) rfl ?_); refine goesL_ (some 37) rfl rfl Try.func41 (by kernel_rfl) rfl #[.int .u8 a0_1] rfl (by (try simp only [List.map_toArray, List.map_cons, List.map_nil]); first | done | rfl | (simp only [List.length_drop, List.length_take]; rfl)) ?_; (with_reducible refine (messuageref01_List.calls kj6 a0_1 t170 _ A18.out).mono ?_); rintro e w78 ⟨v171, rfl, ho0, hb⟩; refine ⟨_, rfl, ?_⟩; have n0_ := Aside0.mk (Kd.R_lower ho0 (below_size (by repeat (first | (with_reducible first | exact HB.out | apply below_alloc | apply pw_below_drewN | apply below_drew1 | refine below_set ?_ GE169.out) | exact HB.out)))); have n1_ := Aside0.mk (blk_below (g := gb169) (o := .cells #[.int .i64 a0_0, .int .u8 a0_1, .int .i64 a0_2] 49 (0, 0)) (by (with_reducible repeat (first | refine blk_drewN ?_ _ | refine blk_drew ?_ | refine blk_alloc ?_ _)); exact BK169.out) hb); have n2_ := Aside0.mk (below_step (by repeat (first | (with_reducible first | exact HB.out | apply below_alloc | apply pw_below_drewN | apply below_drew1 | refine below_set ?_ GE169.out) | exact HB.out)) hb); clear BK169; clear HB; have HO172 := n0_; have BK169 := n1_; have HB := n2_; clear n0_ n1_ n2_; (try clear hb); (try clear hb2); (try clear hk); (try clear hi); (try clear ho0); have hcz79_0 : w78.cell? ⟨gb169, 0, none⟩ = some (.int .i64 a0_0) := (blk_cell BK169.out 0).trans rfl; have hcz79_1 : w78.cell? ⟨gb169, 1, none⟩ = some (.int .u8 a0_1) := (blk_cell BK169.out 1).trans rfl; have hcz79_2 : w78.cell? ⟨gb169, 2, none⟩ = some (.int .i64 a0_2) := (blk_cell BK169.out 2).trans rfl; have hfz79_0 := blk_frozen BK169.out 0; have hfz79_1 := blk_frozen BK169.out 1; have hfz79_2 := blk_frozen BK169.out 2))
                      go_ret
                      exact ⟨by first | rfl | (simp [errW_none, errW_some] <;> rfl) | (simp [*, errW_none, errW_some] <;> rfl), by repeat (first | (with_reducible first | exact HB.out | apply below_alloc | apply pw_below_drewN | apply below_drew1 | refine below_set ?_ GE169.out) | exact HB.out)⟩
                    · rw [if_neg c76] at H
                      have c76b0 : decide (a0_2 < 0) = false := decide_eq_false c76
                      clear c76
                      by_cases c80 : a0_2 ≥ a1
                      · rw [if_pos c80] at H
                        have c80b0 : decide (a1 ≤ a0_2) = true := decide_eq_true c80
                        clear c80
                        obtain rfl := Option.some.inj H
                        have hcz81_0 : wc.cell? ⟨gb169, 0, none⟩ = some (.int .i64 a0_0) := (blk_cell BK169.out 0).trans rfl
                        have hcz81_1 : wc.cell? ⟨gb169, 1, none⟩ = some (.int .u8 a0_1) := (blk_cell BK169.out 1).trans rfl
                        have hcz81_2 : wc.cell? ⟨gb169, 2, none⟩ = some (.int .i64 a0_2) := (blk_cell BK169.out 2).trans rfl
                        have hfz81_0 := blk_frozen BK169.out 0
                        have hfz81_1 := blk_frozen BK169.out 1
                        have hfz81_2 := blk_frozen BK169.out 2
                        go_wp2_with (first | ((with_reducible refine gate_callee (f := 41) rfl ?_); refine goesL_ (some 37) rfl rfl Try.func41 (by kernel_rfl) rfl #[.int .u8 a0_1] rfl (by (try simp only [List.map_toArray, List.map_cons, List.map_nil]); first | done | rfl | (simp only [List.length_drop, List.length_take]; rfl)) ?_; (with_reducible refine (messuageref01_List.calls kj6 a0_1 t170 _ A18.out).mono ?_); rintro e w82 ⟨v171, rfl, ho0, hb⟩; refine ⟨_, rfl, ?_⟩; have n0_ := Aside0.mk (Kd.R_lower ho0 (below_size (by repeat (first | (with_reducible first | exact HB.out | apply below_alloc | apply pw_below_drewN | apply below_drew1 | refine below_set ?_ GE169.out) | exact HB.out)))); have n1_ := Aside0.mk (blk_below (g := gb169) (o := .cells #[.int .i64 a0_0, .int .u8 a0_1, .int .i64 a0_2] 49 (0, 0)) (by (with_reducible repeat (first | refine blk_drewN ?_ _ | refine blk_drew ?_ | refine blk_alloc ?_ _)); exact BK169.out) hb); have n2_ := Aside0.mk (below_step (by repeat (first | (with_reducible first | exact HB.out | apply below_alloc | apply pw_below_drewN | apply below_drew1 | refine below_set ?_ GE169.out) | exact HB.out)) hb); clear BK169; clear HB; have HO172 := n0_; have BK169 := n1_; have HB := n2_; clear n0_ n1_ n2_; (try clear hb); (try clear hb2); (try clear hk); (try clear hi); (try clear ho0); have hcz83_0 : w82.cell? ⟨gb169, 0, none⟩ = some (.int .i64 a0_0) := (blk_cell BK169.out 0).trans rfl; have hcz83_1 : w82.cell? ⟨gb169, 1, none⟩ = some (.int .u8 a0_1) := (blk_cell BK169.out 1).trans rfl; have hcz83_2 : w82.cell? ⟨gb169, 2, none⟩ = some (.int .i64 a0_2) := (blk_cell BK169.out 2).trans rfl; have hfz83_0 := blk_frozen BK169.out 0; have hfz83_1 := blk_frozen BK169.out 1; have hfz83_2 := blk_frozen BK169.out 2))
                        go_ret
                        exact ⟨by first | rfl | (simp [errW_none, errW_some] <;> rfl) | (simp [*, errW_none, errW_some] <;> rfl), by repeat (first | (with_reducible first | exact HB.out | apply below_alloc | apply pw_below_drewN | apply below_drew1 | refine below_set ?_ GE169.out) | exact HB.out)⟩
                      · rw [if_neg c80] at H
                        have c80b0 : decide (a1 ≤ a0_2) = false := decide_eq_false c80
                        clear c80
                        obtain rfl := Option.some.inj H
                        have hcz84_0 : wc.cell? ⟨gb169, 0, none⟩ = some (.int .i64 a0_0) := (blk_cell BK169.out 0).trans rfl
                        have hcz84_1 : wc.cell? ⟨gb169, 1, none⟩ = some (.int .u8 a0_1) := (blk_cell BK169.out 1).trans rfl
                        have hcz84_2 : wc.cell? ⟨gb169, 2, none⟩ = some (.int .i64 a0_2) := (blk_cell BK169.out 2).trans rfl
                        have hfz84_0 := blk_frozen BK169.out 0
                        have hfz84_1 := blk_frozen BK169.out 1
                        have hfz84_2 := blk_frozen BK169.out 2
                        go_wp2_with (first | ((with_reducible refine gate_callee (f := 41) rfl ?_); refine goesL_ (some 37) rfl rfl Try.func41 (by kernel_rfl) rfl #[.int .u8 a0_1] rfl (by (try simp only [List.map_toArray, List.map_cons, List.map_nil]); first | done | rfl | (simp only [List.length_drop, List.length_take]; rfl)) ?_; (with_reducible refine (messuageref01_List.calls kj6 a0_1 t170 _ A18.out).mono ?_); rintro e w85 ⟨v171, rfl, ho0, hb⟩; refine ⟨_, rfl, ?_⟩; have n0_ := Aside0.mk (Kd.R_lower ho0 (below_size (by repeat (first | (with_reducible first | exact HB.out | apply below_alloc | apply pw_below_drewN | apply below_drew1 | refine below_set ?_ GE169.out) | exact HB.out)))); have n1_ := Aside0.mk (blk_below (g := gb169) (o := .cells #[.int .i64 a0_0, .int .u8 a0_1, .int .i64 a0_2] 49 (0, 0)) (by (with_reducible repeat (first | refine blk_drewN ?_ _ | refine blk_drew ?_ | refine blk_alloc ?_ _)); exact BK169.out) hb); have n2_ := Aside0.mk (below_step (by repeat (first | (with_reducible first | exact HB.out | apply below_alloc | apply pw_below_drewN | apply below_drew1 | refine below_set ?_ GE169.out) | exact HB.out)) hb); clear BK169; clear HB; have HO172 := n0_; have BK169 := n1_; have HB := n2_; clear n0_ n1_ n2_; (try clear hb); (try clear hb2); (try clear hk); (try clear hi); (try clear ho0); have hcz86_0 : w85.cell? ⟨gb169, 0, none⟩ = some (.int .i64 a0_0) := (blk_cell BK169.out 0).trans rfl; have hcz86_1 : w85.cell? ⟨gb169, 1, none⟩ = some (.int .u8 a0_1) := (blk_cell BK169.out 1).trans rfl; have hcz86_2 : w85.cell? ⟨gb169, 2, none⟩ = some (.int .i64 a0_2) := (blk_cell BK169.out 2).trans rfl; have hfz86_0 := blk_frozen BK169.out 0; have hfz86_1 := blk_frozen BK169.out 1; have hfz86_2 := blk_frozen BK169.out 2))
                        go_ret
                        exact ⟨by first | rfl | (simp [errW_none, errW_some] <;> rfl) | (simp [*, errW_none, errW_some] <;> rfl), by repeat (first | (with_reducible first | exact HB.out | apply below_alloc | apply pw_below_drewN | apply below_drew1 | refine below_set ?_ GE169.out) | exact HB.out)⟩
                  · rw [if_neg c75] at H
                    have c75b0 : (a0_0 == 3) = false := beq_eq_false_iff_ne.mpr c75
                    have c75b1 : (a0_0 != 3) = true := bne_iff_ne.mpr c75
                    obtain rfl := Option.some.inj H
                    have hcz87_0 : wc.cell? ⟨gb169, 0, none⟩ = some (.int .i64 a0_0) := (blk_cell BK169.out 0).trans rfl
                    have hcz87_1 : wc.cell? ⟨gb169, 1, none⟩ = some (.int .u8 a0_1) := (blk_cell BK169.out 1).trans rfl
                    have hcz87_2 : wc.cell? ⟨gb169, 2, none⟩ = some (.int .i64 a0_2) := (blk_cell BK169.out 2).trans rfl
                    have hfz87_0 := blk_frozen BK169.out 0
                    have hfz87_1 := blk_frozen BK169.out 1
                    have hfz87_2 := blk_frozen BK169.out 2
                    go_wp2_with (first | ((with_reducible refine gate_callee (f := 41) rfl ?_); refine goesL_ (some 37) rfl rfl Try.func41 (by kernel_rfl) rfl #[.int .u8 a0_1] rfl (by (try simp only [List.map_toArray, List.map_cons, List.map_nil]); first | done | rfl | (simp only [List.length_drop, List.length_take]; rfl)) ?_; (with_reducible refine (messuageref01_List.calls kj6 a0_1 t170 _ A18.out).mono ?_); rintro e w88 ⟨v171, rfl, ho0, hb⟩; refine ⟨_, rfl, ?_⟩; have n0_ := Aside0.mk (Kd.R_lower ho0 (below_size (by repeat (first | (with_reducible first | exact HB.out | apply below_alloc | apply pw_below_drewN | apply below_drew1 | refine below_set ?_ GE169.out) | exact HB.out)))); have n1_ := Aside0.mk (blk_below (g := gb169) (o := .cells #[.int .i64 a0_0, .int .u8 a0_1, .int .i64 a0_2] 49 (0, 0)) (by (with_reducible repeat (first | refine blk_drewN ?_ _ | refine blk_drew ?_ | refine blk_alloc ?_ _)); exact BK169.out) hb); have n2_ := Aside0.mk (below_step (by repeat (first | (with_reducible first | exact HB.out | apply below_alloc | apply pw_below_drewN | apply below_drew1 | refine below_set ?_ GE169.out) | exact HB.out)) hb); clear BK169; clear HB; have HO172 := n0_; have BK169 := n1_; have HB := n2_; clear n0_ n1_ n2_; (try clear hb); (try clear hb2); (try clear hk); (try clear hi); (try clear ho0); have hcz89_0 : w88.cell? ⟨gb169, 0, none⟩ = some (.int .i64 a0_0) := (blk_cell BK169.out 0).trans rfl; have hcz89_1 : w88.cell? ⟨gb169, 1, none⟩ = some (.int .u8 a0_1) := (blk_cell BK169.out 1).trans rfl; have hcz89_2 : w88.cell? ⟨gb169, 2, none⟩ = some (.int .i64 a0_2) := (blk_cell BK169.out 2).trans rfl; have hfz89_0 := blk_frozen BK169.out 0; have hfz89_1 := blk_frozen BK169.out 1; have hfz89_2 := blk_frozen BK169.out 2))
                    go_ret
                    exact ⟨by first | rfl | (simp [errW_none, errW_some] <;> rfl) | (simp [*, errW_none, errW_some] <;> rfl), by repeat (first | (with_reducible first | exact HB.out | apply below_alloc | apply pw_below_drewN | apply below_drew1 | refine below_set ?_ GE169.out) | exact HB.out)⟩

/-! ### messuageref01_Next: function 53 -/
def messuageref01_Next.l0 : Nat → Int → List Int → Int → Option (Int × Bool)
  | 0, _, _, _ => none
  | k + 1, x1, x6, x7 => if x7 < (x6.length : Int) then (if 0 ≤ x7 then (if (rd x6 x7) > x1 then (some (rd x6 x7, true)) else (messuageref01_Next.l0 k x1 x6 (wrap64 (x7 + 1)))) else (none)) else (if (x6.length : Int) = 0 then (some (0, false)) else (if 0 < (x6.length : Int) then (some (rd x6 0, true)) else (none)))
def messuageref01_Next.f (k : Nat) (a0 : Int) (a1 : Int) : Option (Int × Bool) := (messuageref01_List.f k a0).bind fun t175 => (messuageref01_Next.l0 k a1 t175 0)
theorem messuageref01_Next.mono_l : ∀ k, (∀ y0 y1 y2, LeO (messuageref01_Next.l0 k y0 y1 y2) (messuageref01_Next.l0 (k + 1) y0 y1 y2))
  | 0 => fun _ _ _ r h => by simp [messuageref01_Next.l0] at h
  | k + 1 => by
    have ih0 := messuageref01_Next.mono_l k
    · intro y0 y1 y2
      unfold messuageref01_Next.l0
      repeat' first
      | (with_reducible exact ih0 _ _ _)
      | (with_reducible exact messuageref01_List.mono _ _)
      | (with_reducible exact LeO.refl _)
      | (with_reducible exact LeO.none _)
      | (with_reducible refine LeO.ite ?_ ?_)
      | (with_reducible refine LeO.bind ?_ (fun _ => ?_))
      | exact ih0 _ _ _
      | exact messuageref01_List.mono _ _
      | exact LeO.none _
      | refine LeO.ite ?_ ?_
      | refine LeO.bind ?_ (fun _ => ?_)
theorem messuageref01_Next.mono : ∀ a0 a1 k, LeO (messuageref01_Next.f k a0 a1) (messuageref01_Next.f (k + 1) a0 a1) := by
  intro a0 a1 k
  have ih0 := messuageref01_Next.mono_l k
  unfold messuageref01_Next.f
  repeat' first
      | (with_reducible exact ih0 _ _ _)
      | (with_reducible exact messuageref01_List.mono _ _)
      | (with_reducible exact LeO.refl _)
      | (with_reducible exact LeO.none _)
      | (with_reducible refine LeO.ite ?_ ?_)
      | (with_reducible refine LeO.bind ?_ (fun _ => ?_))
      | exact ih0 _ _ _
      | exact messuageref01_List.mono _ _
      | exact LeO.none _
      | refine LeO.ite ?_ ?_
      | refine LeO.bind ?_ (fun _ => ?_)
set_option maxHeartbeats 8000000 in
set_option maxRecDepth 100000 in
theorem messuageref01_Next.calls (k : Nat) (a0 : Int) (a1 : Int) (r1 : Int) (r2 : Bool) (w : World) (h : messuageref01_Next.f k a0 a1 = some (r1, r2)) :
    Calls Try.prog 53 #[.int .u8 a0, .int .i64 a1] w fun e w' => e = .returned (.tuple #[.int .i64 r1, .bool r2]) ∧ Below w.heap.size w w' := by
  have HB := Aside0.mk (Below.refl w.heap.size w)
  have H : ((messuageref01_List.f k a0).bind fun t175 => (messuageref01_Next.l0 k a1 t175 0)) = some (r1, r2) := h
  clear h
  replace H := Option.bind_eq_some_iff.mp H
  obtain ⟨t175, A30, H⟩ := H
  replace H : (messuageref01_Next.l0 k a1 t175 0) = some (r1, r2) := H
  have A3 := Aside0.mk A30
  clear A30
  have H' := Aside0.mk H
  clear H
  go_enter Try.func53, Try.ntmps53
  go_wp2_with (first | ((with_reducible refine gate_callee (f := 41) rfl ?_); refine goesL_ (some 9) rfl rfl Try.func41 (by kernel_rfl) rfl #[.int .u8 a0] rfl (by (try simp only [List.map_toArray, List.map_cons, List.map_nil]); first | done | rfl | (simp only [List.length_drop, List.length_take]; rfl)) ?_; (with_reducible refine (messuageref01_List.calls k a0 t175 _ A3.out).mono ?_); rintro e w4 ⟨v176, rfl, ho0, hb⟩; refine ⟨_, rfl, ?_⟩; have n0_ := Aside0.mk (Kd.R_lower ho0 (below_size (by repeat (first | (with_reducible first | exact HB.out | apply below_alloc | apply pw_below_drewN | apply below_drew1) | exact HB.out)))); have n1_ := Aside0.mk (below_step (by repeat (first | (with_reducible first | exact HB.out | apply below_alloc | apply pw_below_drewN | apply below_drew1) | exact HB.out)) hb); clear HB; have HO177 := n0_; have HB := n1_; clear n0_ n1_; (try clear hb); (try clear hb2); (try clear hk); (try clear hi); (try clear ho0)))
  go_loopg [7] k (fun kq v7 w' => ∃ (x7_1 : Int), v7 = .int .i64 x7_1 ∧ Aside0 (messuageref01_Next.l0 kq a1 t175 x7_1 = some (r1, r2)) ∧ Aside0 (kq ≤ k) ∧ Aside0 (Kd.R (Kd.int .i64) 3 w' w.heap.size (fun _ => True) v176 t175) ∧ Aside0 (Below w.heap.size w w'))
  case atStart => exact ⟨(0), (by first | rfl | (simp; done) | (simp [*]; done)), H', ⟨Nat.le_refl _⟩, ⟨by (with_reducible repeat (first | apply Kd.R_alloc | apply Kd.R_drewN | apply Kd.R_drew)); exact HO177.out⟩, ⟨by repeat (first | (with_reducible first | exact HB.out | apply below_alloc | apply pw_below_drewN | apply below_drew1) | exact HB.out)⟩⟩
  case round =>
    clear H'
    try clear p2
    try clear c4
    obtain ⟨x7_1, rfl, HA, HK1, HO_6, HB⟩ := hrel
    cases gk with
    | zero => exact absurd HA.out (by simp [messuageref01_Next.l0])
    | succ k1 =>
      have H := HA.out
      clear HA
      simp only [messuageref01_Next.l0] at H
      by_cases c5 : x7_1 < (t175.length : Int)
      · rw [if_pos c5] at H
        have c5b0 : decide (x7_1 < (t175.length : Int)) = true := decide_eq_true c5
        clear c5
        by_cases c6 : 0 ≤ x7_1
        · rw [if_pos c6] at H
          have c6b0 : decide (0 ≤ x7_1) = true := decide_eq_true c6
          clear c6
          by_cases c7 : (rd t175 x7_1) > a1
          · rw [if_pos c7] at H
            have c7b0 : decide (a1 < (rd t175 x7_1)) = true := decide_eq_true c7
            clear c7
            simp only [Option.some.injEq, Prod.mk.injEq] at H
            obtain ⟨rfl, rfl⟩ := H
            obtain ⟨Ao8, co8, eo8⟩ := Kd.R_slice HO_6.out
            subst eo8
            have p178 : 0 ≤ (x7_1 : Int) := of_decide_eq_true (by first | (with_reducible assumption) | assumption)
            have q178 : x7_1 < (t175.length : Int) := of_decide_eq_true (by first | (with_reducible assumption) | assumption)
            obtain ⟨ad178, e178, hx178_0⟩ := Kd.at_int (Kd.R_reads' HO_6.out).2.2 x7_1 p178 q178
            cases e178
            replace p178 := eq_true p178
            replace q178 := eq_true q178
            have p179 : 0 ≤ (x7_1 : Int) := of_decide_eq_true (by first | (with_reducible assumption) | assumption)
            have q179 : x7_1 < (t175.length : Int) := of_decide_eq_true (by first | (with_reducible assumption) | assumption)
            obtain ⟨ad179, e179, hx179_0⟩ := Kd.at_int (Kd.R_reads' HO_6.out).2.2 x7_1 p179 q179
            obtain rfl : ad178 = ad179 := (by injection e179)
            replace p179 := eq_true p179
            replace q179 := eq_true q179
            go_wp2
            go_ret2
            exact ⟨by first | rfl | (simp [errW_none, errW_some] <;> rfl) | (simp [*, errW_none, errW_some] <;> rfl), by repeat (first | (with_reducible first | exact HB.out | apply below_alloc | apply pw_below_drewN | apply below_drew1) | exact HB.out)⟩
          · rw [if_neg c7] at H
            have c7b0 : decide (a1 < (rd t175 x7_1)) = false := decide_eq_false c7
            clear c7
            have H' := Aside0.mk H
            clear H
            obtain ⟨Ao9, co9, eo9⟩ := Kd.R_slice HO_6.out
            subst eo9
            have p178 : 0 ≤ (x7_1 : Int) := of_decide_eq_true (by first | (with_reducible assumption) | assumption)
            have q178 : x7_1 < (t175.length : Int) := of_decide_eq_true (by first | (with_reducible assumption) | assumption)
            obtain ⟨ad178, e178, hx178_0⟩ := Kd.at_int (Kd.R_reads' HO_6.out).2.2 x7_1 p178 q178
            cases e178
            replace p178 := eq_true p178
            replace q178 := eq_true q178
            go_wp2
            go_roundg k1
            case measure => have := HK1.out; omega
            case rel => exact ⟨(wrap64 (x7_1 + 1)), (by first | rfl | (simp; done) | (simp [*]; done)), H', ⟨by have := HK1.out; omega⟩, ⟨by (with_reducible repeat (first | apply Kd.R_alloc | apply Kd.R_drewN | apply Kd.R_drew)); exact HO_6.out⟩, ⟨by repeat (first | (with_reducible first | exact HB.out | apply below_alloc | apply pw_below_drewN | apply below_drew1) | exact HB.out)⟩⟩
        · rw [if_neg c6] at H
          exact absurd H (by simp)
      · rw [if_neg c5] at H
        have c5b0 : decide (x7_1 < (t175.length : Int)) = false := decide_eq_false c5
        clear c5
        by_cases c10 : (t175.length : Int) = 0
        · rw [if_pos c10] at H
          have c10b0 : ((t175.length : Int) == 0) = true := beq_iff_eq.mpr c10
          have c10b1 : ((t175.length : Int) != 0) = false := bne_eq_false_iff_eq.mpr c10
          clear c10
          simp only [Option.some.injEq, Prod.mk.injEq] at H
          obtain ⟨rfl, rfl⟩ := H
          obtain ⟨Ao11, co11, eo11⟩ := Kd.R_slice HO_6.out
          subst eo11
          go_wp2
          go_ret2
          exact ⟨by first | rfl | (simp [errW_none, errW_some] <;> rfl) | (simp [*, errW_none, errW_some] <;> rfl), by repeat (first | (with_reducible first | exact HB.out | apply below_alloc | apply pw_below_drewN | apply below_drew1) | exact HB.out)⟩
        · rw [if_neg c10] at H
          have c10b0 : ((t175.length : Int) == 0) = false := beq_eq_false_iff_ne.mpr c10
          have c10b1 : ((t175.length : Int) != 0) = true := bne_iff_ne.mpr c10
          have c10b2 : ¬ (t175 = []) := fun h_ => c10 (by rw [h_]; rfl)
          by_cases c12 : 0 < (t175.length : Int)
          · rw [if_pos c12] at H
            have c12b0 : decide (0 < (t175.length : Int)) = true := decide_eq_true c12
            have c12b1 : decide (0 < t175.length) = true := decide_eq_true (by omega)
            clear c12
            simp only [Option.some.injEq, Prod.mk.injEq] at H
            obtain ⟨rfl, rfl⟩ := H
            obtain ⟨Ao13, co13, eo13⟩ := Kd.R_slice HO_6.out
            subst eo13
            have p180 : 0 ≤ (0 : Int) := (by omega)
            have q180 : 0 < (t175.length : Int) := of_decide_eq_true (by first | (with_reducible assumption) | assumption)
            obtain ⟨ad180, e180, hx180_0⟩ := Kd.at_int (Kd.R_reads' HO_6.out).2.2 0 p180 q180
            cases e180
            have qi180 : (0 < t175.length) = True := eq_true (by omega)
            (try rw [show ((0 : Int)).toNat = 0 from rfl] at hx180_0)
            (try rw [Addr.add_zero'] at hx180_0)
            replace p180 := eq_true p180
            replace q180 := eq_true q180
            go_wp2
            go_ret2
            exact ⟨by first | rfl | (simp [errW_none, errW_some] <;> rfl) | (simp [*, errW_none, errW_some] <;> rfl), by repeat (first | (with_reducible first | exact HB.out | apply below_alloc | apply pw_below_drewN | apply below_drew1) | exact HB.out)⟩
          · rw [if_neg c12] at H
            exact absurd H (by simp)

/-! ### messuageref10_Start: function 40 -/
def messuageref10_Start.f (k : Nat) (a0_0 : Int) (a0_1 : Int) (a0_2 : Int) (a1 : Int) (a2 : Int) : Option (Int × Int) := if a0_0 = 2 then ((messuageref01_Next.f k a0_1 a2).bind fun bt182 => (some (bt182.1, bt182.1))) else (if a0_0 = 3 then (some (a0_2, a2)) else (some (a1, a2)))
theorem messuageref10_Start.mono : ∀ a0 a1 a2 a3 a4 k, LeO (messuageref10_Start.f k a0 a1 a2 a3 a4) (messuageref10_Start.f (k + 1) a0 a1 a2 a3 a4) := by
  intro a0 a1 a2 a3 a4 k
  unfold messuageref10_Start.f
  repeat' first
      | (with_reducible exact messuageref01_Next.mono _ _ _)
      | (with_reducible exact LeO.refl _)
      | (with_reducible exact LeO.none _)
      | (with_reducible refine LeO.ite ?_ ?_)
      | (with_reducible refine LeO.bind ?_ (fun _ => ?_))
      | exact messuageref01_Next.mono _ _ _
      | exact LeO.none _
      | refine LeO.ite ?_ ?_
      | refine LeO.bind ?_ (fun _ => ?_)
set_option maxHeartbeats 8000000 in
set_option maxRecDepth 100000 in
theorem messuageref10_Start.calls (k : Nat) (a0_0 : Int) (a0_1 : Int) (a0_2 : Int) (a1 : Int) (a2 : Int) (r1 : Int) (r2 : Int) (w : World) (h : messuageref10_Start.f k a0_0 a0_1 a0_2 a1 a2 = some (r1, r2)) :
    Calls Try.prog 40 #[.agg #[.int .i64 a0_0, .int .u8 a0_1, .int .i64 a0_2], .int .i64 a1, .int .i64 a2] w fun e w' => e = .returned (.tuple #[.int .i64 r1, .int .i64 r2]) ∧ Below w.heap.size w w' := by
  have hu49 := Try.underlying49
  have HB := Aside0.mk (Below.refl w.heap.size w)
  have H : (if a0_0 = 2 then ((messuageref01_Next.f k a0_1 a2).bind fun bt182 => (some (bt182.1, bt182.1))) else (if a0_0 = 3 then (some (a0_2, a2)) else (some (a1, a2)))) = some (r1, r2) := h
  clear h
  by_cases c4 : a0_0 = 2
  · rw [if_pos c4] at H
    have c4b0 : (a0_0 == 2) = true := beq_iff_eq.mpr c4
    have c4b1 : (a0_0 != 2) = false := bne_eq_false_iff_eq.mpr c4
    clear c4
    replace H := Option.bind_eq_some_iff.mp H
    obtain ⟨⟨t182, t183⟩, A50, H⟩ := H
    replace H : (some (t182, t182)) = some (r1, r2) := H
    have A5 := Aside0.mk A50
    clear A50
    simp only [Option.some.injEq, Prod.mk.injEq] at H
    obtain ⟨rfl, rfl⟩ := H
    go_enter Try.func40, Try.ntmps40
    go_wp2_with (first | ((with_reducible refine gate_dst (N := 3) rfl ?_); refine box_event ?hg (N := 3) ?hd (cs := #[.int .i64 a0_0, .int .u8 a0_1, .int .i64 a0_2]) (t := 49) ?hr ?_; (case hd => rfl); (case hg => rfl); (case hr => first | (go_simp; done) | (go_simp; rfl)); intro gb181 hg w6 hbox hb; have n0_ := Aside0.mk (below_step (by repeat (first | (with_reducible first | exact HB.out | apply below_alloc | apply pw_below_drewN | apply below_drew1) | exact HB.out)) hb); have n1_ := Aside0.mk (hbox); have n2_ := Aside0.mk ((by rw [hg]; exact (below_size (by repeat (first | (with_reducible first | exact HB.out | apply below_alloc | apply pw_below_drewN | apply below_drew1) | exact HB.out))) : w.heap.size ≤ gb181)); have n3_ := Aside0.mk ((by rw [hg]; exact (below_size (by repeat (first | (with_reducible first | exact HB.out | apply below_alloc | apply pw_below_drewN | apply below_drew1) | exact HB.out))) : w.heap.size ≤ gb181)); clear HB; have HB := n0_; have BK181 := n1_; have GW181 := n2_; have GE181 := n3_; clear n0_ n1_ n2_ n3_; clear hb hbox hg; have hcz7_0 : w6.cell? ⟨gb181, 0, none⟩ = some (.int .i64 a0_0) := (blk_cell BK181.out 0).trans rfl; have hcz7_1 : w6.cell? ⟨gb181, 1, none⟩ = some (.int .u8 a0_1) := (blk_cell BK181.out 1).trans rfl; have hcz7_2 : w6.cell? ⟨gb181, 2, none⟩ = some (.int .i64 a0_2) := (blk_cell BK181.out 2).trans rfl; have hfz7_0 := blk_frozen BK181.out 0; have hfz7_1 := blk_frozen BK181.out 1; have hfz7_2 := blk_frozen BK181.out 2) | ((with_reducible refine gate_callee (f := 53) rfl ?_); refine goesL_ (some 18) rfl rfl Try.func53 (by kernel_rfl) rfl #[.int .u8 a0_1, .int .i64 a2] rfl (by (try simp only [List.map_toArray, List.map_cons, List.map_nil]); first | done | rfl | (simp only [List.length_drop, List.length_take]; rfl)) ?_; (with_reducible refine (messuageref01_Next.calls k a0_1 a2 t182 t183 _ A5.out).mono ?_); rintro e w8 ⟨rfl, hb⟩; refine ⟨_, rfl, ?_⟩; have n0_ := Aside0.mk (blk_below (g := gb181) (o := .cells #[.int .i64 a0_0, .int .u8 a0_1, .int .i64 a0_2] 49 (0, 0)) (by (with_reducible repeat (first | refine blk_drewN ?_ _ | refine blk_drew ?_ | refine blk_alloc ?_ _)); exact BK181.out) hb); have n1_ := Aside0.mk (below_step (by repeat (first | (with_reducible first | exact HB.out | apply below_alloc | apply pw_below_drewN | apply below_drew1 | refine below_set ?_ GE181.out) | exact HB.out)) hb); clear BK181; clear HB; have BK181 := n0_; have HB := n1_; clear n0_ n1_; (try clear hb); (try clear hb2); (try clear hk); (try clear hi)))
    go_ret2
    exact ⟨by first | rfl | (simp [errW_none, errW_some] <;> rfl) | (simp [*, errW_none, errW_some] <;> rfl), by repeat (first | (with_reducible first | exact HB.out | apply below_alloc | apply pw_below_drewN | apply below_drew1 | refine below_set ?_ GE181.out) | exact HB.out)⟩
  · rw [if_neg c4] at H
    have c4b0 : (a0_0 == 2) = false := beq_eq_false_iff_ne.mpr c4
    have c4b1 : (a0_0 != 2) = true := bne_iff_ne.mpr c4
    by_cases c9 : a0_0 = 3
    · rw [if_pos c9] at H
      have c9b0 : (a0_0 == 3) = true := beq_iff_eq.mpr c9
      have c9b1 : (a0_0 != 3) = false := bne_eq_false_iff_eq.mpr c9
      clear c9
      simp only [Option.some.injEq, Prod.mk.injEq] at H
      obtain ⟨rfl, rfl⟩ := H
      go_enter Try.func40, Try.ntmps40
      go_wp2_with (first | ((with_reducible refine gate_dst (N := 3) rfl ?_); refine box_event ?hg (N := 3) ?hd (cs := #[.int .i64 a0_0, .int .u8 a0_1, .int .i64 a0_2]) (t := 49) ?hr ?_; (case hd => rfl); (case hg => rfl); (case hr => first | (go_simp; done) | (go_simp; rfl)); intro gb181 hg w10 hbox hb; have n0_ := Aside0.mk (below_step (by repeat (first | (with_reducible first | exact HB.out | apply below_alloc | apply pw_below_drewN | apply below_drew1) | exact HB.out)) hb); have n1_ := Aside0.mk (hbox); have n2_ := Aside0.mk ((by rw [hg]; exact (below_size (by repeat (first | (with_reducible first | exact HB.out | apply below_alloc | apply pw_below_drewN | apply below_drew1) | exact HB.out))) : w.heap.size ≤ gb181)); have n3_ := Aside0.mk ((by rw [hg]; exact (below_size (by repeat (first | (with_reducible first | exact HB.out | apply below_alloc | apply pw_below_drewN | apply below_drew1) | exact HB.out))) : w.heap.size ≤ gb181)); clear HB; have HB := n0_; have BK181 := n1_; have GW181 := n2_; have GE181 := n3_; clear n0_ n1_ n2_ n3_; clear hb hbox hg; have hcz11_0 : w10.cell? ⟨gb181, 0, none⟩ = some (.int .i64 a0_0) := (blk_cell BK181.out 0).trans rfl; have hcz11_1 : w10.cell? ⟨gb181, 1, none⟩ = some (.int .u8 a0_1) := (blk_cell BK181.out 1).trans rfl; have hcz11_2 : w10.cell? ⟨gb181, 2, none⟩ = some (.int .i64 a0_2) := (blk_cell BK181.out 2).trans rfl; have hfz11_0 := blk_frozen BK181.out 0; have hfz11_1 := blk_frozen BK181.out 1; have hfz11_2 := blk_frozen BK181.out 2))
      go_ret2
      exact ⟨by first | rfl | (simp [errW_none, errW_some] <;> rfl) | (simp [*, errW_none, errW_some] <;> rfl), by repeat (first | (with_reducible first | exact HB.out | apply below_alloc | apply pw_below_drewN | apply below_drew1 | refine below_set ?_ GE181.out) | exact HB.out)⟩
    · rw [if_neg c9] at H
      have c9b0 : (a0_0 == 3) = false := beq_eq_false_iff_ne.mpr c9
      have c9b1 : (a0_0 != 3) = true := bne_iff_ne.mpr c9
      simp only [Option.some.injEq, Prod.mk.injEq] at H
      obtain ⟨rfl, rfl⟩ := H
      go_enter Try.func40, Try.ntmps40
      go_wp2_with (first | ((with_reducible refine gate_dst (N := 3) rfl ?_); refine box_event ?hg (N := 3) ?hd (cs := #[.int .i64 a0_0, .int .u8 a0_1, .int .i64 a0_2]) (t := 49) ?hr ?_; (case hd => rfl); (case hg => rfl); (case hr => first | (go_simp; done) | (go_simp; rfl)); intro gb181 hg w12 hbox hb; have n0_ := Aside0.mk (below_step (by repeat (first | (with_reducible first | exact HB.out | apply below_alloc | apply pw_below_drewN | apply below_drew1) | exact HB.out)) hb); have n1_ := Aside0.mk (hbox); have n2_ := Aside0.mk ((by rw [hg]; exact (below_size (by repeat (first | (with_reducible first | exact HB.out | apply below_alloc | apply pw_below_drewN | apply below_drew1) | exact HB.out))) : w.heap.size ≤ gb181)); have n3_ := Aside0.mk ((by rw [hg]; exact (below_size (by repeat (first | (with_reducible first | exact HB.out | apply below_alloc | apply pw_below_drewN | apply below_drew1) | exact HB.out))) : w.heap.size ≤ gb181)); clear HB; have HB := n0_; have BK181 := n1_; have GW181 := n2_; have GE181 := n3_; clear n0_ n1_ n2_ n3_; clear hb hbox hg; have hcz13_0 : w12.cell? ⟨gb181, 0, none⟩ = some (.int .i64 a0_0) := (blk_cell BK181.out 0).trans rfl; have hcz13_1 : w12.cell? ⟨gb181, 1, none⟩ = some (.int .u8 a0_1) := (blk_cell BK181.out 1).trans rfl; have hcz13_2 : w12.cell? ⟨gb181, 2, none⟩ = some (.int .i64 a0_2) := (blk_cell BK181.out 2).trans rfl; have hfz13_0 := blk_frozen BK181.out 0; have hfz13_1 := blk_frozen BK181.out 1; have hfz13_2 := blk_frozen BK181.out 2))
      go_ret2
      exact ⟨by first | rfl | (simp [errW_none, errW_some] <;> rfl) | (simp [*, errW_none, errW_some] <;> rfl), by repeat (first | (with_reducible first | exact HB.out | apply below_alloc | apply pw_below_drewN | apply below_drew1 | refine below_set ?_ GE181.out) | exact HB.out)⟩

-- NOT PRINTED: function 24 (messuageref11_Node)

-- NOT PRINTED: function 25 (messuagelaw11_chooses)

-- NOT PRINTED: function 6 (messuagelaw11_ChooseTells)

end Go.Proofs.Ytffmhpfdfcpniaa.PH
