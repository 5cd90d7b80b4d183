import Derived.Test.YtenkdmloolbdaaaGreatDoorE18
set_option linter.unusedVariables false
set_option linter.unusedSimpArgs false
set_option maxHeartbeats 8000000
set_option maxRecDepth 100000
section
namespace Go.Proofs.YtenkdmloolbdaaaGreatDoor.PH
open Go.RowKit Go.Proofs.YtenkdmloolbdaaaGreatDoorW.PrintWords Go.Proofs.YtenkdmloolbdaaaGreatDoorW.PrintLast Go.Proofs.YtenkdmloolbdaaaGreatDoorW.PrintMore
attribute [local go_sem] max2_int min2_int max_two min_two max_three min_three max_four min_four
mutual
def policy_Check.j0 : Nat → Int → Bool → Int → Int → Int → Option (Int)
 | 0, _, _, _, _, _ => none
 | k + 1, x1, x10, x131000, x131001, x131002 => if x10 = true then (some 3) else (if x131000 = 0 then (some 0) else (if x131000 = 1 then (policy_Check.j1 k x1 x131000 (x131000 == 1) x131000 x131001 x131002) else (policy_Check.j1 k x1 x131000 (x131000 == 2) x131000 x131001 x131002)))
def policy_Check.j1 : Nat → Int → Int → Bool → Int → Int → Int → Option (Int)
 | 0, _, _, _, _, _, _ => none
 | k + 1, x1, x12, x15, x131000, x131001, x131002 => if x15 = true then ((policy_sets.f x131001 x1).bind fun t131 => (some t131)) else (if x12 = 3 then (if x131002 < 0 then (some 10) else (if x131002 ≥ x1 then (some 10) else (some 0))) else (some 1))
end
def policy_Check.f (k : Nat) (a0_0 : Int) (a0_1 : Int) (a0_2 : Int) (a1 : Int) : Option (Int) := if a1 < 1 then (policy_Check.j0 k a1 true a0_0 a0_1 a0_2) else (policy_Check.j0 k a1 (decide (a1 > 8)) a0_0 a0_1 a0_2)
theorem policy_Check.calls (k : Nat) (a0_0 : Int) (a0_1 : Int) (a0_2 : Int) (a1 : Int) (r : Int) (w : World) (h : policy_Check.f k a0_0 a0_1 a0_2 a1 = some r) :
 Calls Tryz.prog 99 #[.agg #[.int .i64 a0_0, .int .u8 a0_1, .int .i64 a0_2], .int .i64 a1] w fun e w' => e = .returned (.int .i64 r) ∧ Below w.heap.size w w' := by
 have hu40 := Tryz.underlying40
 have HB := ak (Below.refl w.heap.size w)
 have H : (if a1 < 1 then (policy_Check.j0 k a1 true a0_0 a0_1 a0_2) else (policy_Check.j0 k a1 (decide (a1 > 8)) a0_0 a0_1 a0_2)) = some r := h
 clear h
 have HC3 := ak H
 clear H
 go_enter Tryz.func99, Tryz.ntmps99
 go_upto_region 1 with (first | ((with_reducible refine gate_dst (N := 2) rfl ?_); refine box_event ?hg (N := 2) ?hd (cs := #[.int .i64 a0_0, .int .u8 a0_1, .int .i64 a0_2]) (t := 40) ?hr ?_; (case hd => rfl); (case hg => rfl); (case hr => first | (go_simp; done) | (go_simp; rfl)); intro gb130 hg w4 hbox hb; have n0_ := ak (below_step (by repeat (first | (with_reducible first | exact HB.1 | apply below_alloc | apply pw_below_drewN | apply below_drew1) | exact HB.1)) hb); have n1_ := ak (hbox); have n2_ := ak ((by rw [hg]; exact (below_size (by repeat (first | (with_reducible first | exact HB.1 | apply below_alloc | apply pw_below_drewN | apply below_drew1) | exact HB.1))) : w.heap.size ≤ gb130)); have n3_ := ak ((by rw [hg]; exact (below_size (by repeat (first | (with_reducible first | exact HB.1 | apply below_alloc | apply pw_below_drewN | apply below_drew1) | exact HB.1))) : w.heap.size ≤ gb130)); clear HB; have HB := n0_; have BK130 := n1_; have GW130 := n2_; have GE130 := n3_; clear n0_ n1_ n2_ n3_; clear hb hbox hg))
 (try simp only [Act.put, List.setIfInBounds_toArray, List.set_cons_zero, List.set_cons_succ])
 go_cut [10] (fun v10 wc => ∃ (kq : Nat) (x10_2 : Bool), v10 = .bool x10_2 ∧ Aside0 (policy_Check.j0 kq a1 x10_2 a0_0 a0_1 a0_2 = some r) ∧ Aside0 (kq ≤ k) ∧ Aside0 (wc.heap[gb130]? = some (.cells #[.int .i64 a0_0, .int .u8 a0_1, .int .i64 a0_2] 40 (0, 0))) ∧ Aside0 (Below w.heap.size w wc))
 case first =>
  have H := HC3.1
  clear HC3
  by_cases c5 : a1 < 1
  ·rw [if_pos c5] at H
   have c5b0 : decide (a1 < 1) = true := decide_eq_true c5
   clear c5
   (first | rw [c5b0] | (simp only [i64_w, i32_w]; rw [c5b0]) | skip)
   have H' := ak H
   clear H
   go_wp2
   go_meet
   case rel => exact ⟨_, (true), (by first | rfl | (simp; done) | (simp [*]; done)), H', ⟨by first | omega | exact Nat.le_refl _⟩, ⟨by (with_reducible repeat (first | refine blk_drewN ?_ _ | refine blk_drew ?_ | refine blk_alloc ?_ _)); exact BK130.out⟩, ⟨by repeat (first | (with_reducible first | exact HB.1 | apply below_alloc | apply pw_below_drewN | apply below_drew1 | refine below_set ?_ GE130.out) | exact HB.1)⟩⟩
  ·rw [if_neg c5] at H
   have c5b0 : decide (a1 < 1) = false := decide_eq_false c5
   clear c5
   (first | rw [c5b0] | (simp only [i64_w, i32_w]; rw [c5b0]) | skip)
   have H' := ak H
   clear H
   go_wp2
   go_meet
   case rel => exact ⟨_, (decide (a1 > 8)), (by first | rfl | (simp; done) | (simp [*]; done)), H', ⟨by first | omega | exact Nat.le_refl _⟩, ⟨by (with_reducible repeat (first | refine blk_drewN ?_ _ | refine blk_drew ?_ | refine blk_alloc ?_ _)); exact BK130.out⟩, ⟨by repeat (first | (with_reducible first | exact HB.1 | apply below_alloc | apply pw_below_drewN | apply below_drew1 | refine below_set ?_ GE130.out) | exact HB.1)⟩⟩
 case rest =>
  clear HC3
  try clear p2
  try clear c5
  try clear c5b0
  obtain ⟨kq, x10_2, rfl, HA, HJ2, BK130, HB⟩ := hcut
  cases kq with
  | zero => exact absurd HA.1 (by simp [policy_Check.j0])
  | succ kj2 =>
   have H := HA.1
   clear HA
   simp only [policy_Check.j0] at H
   by_cases c6 : x10_2 = true
   ·subst c6
    have H1 : (some 3) = some r := by rw [if_pos rfl] at H; exact H
    clear H
    have H := H1
    clear H1
    obtain rfl := Option.some.inj H
    go_wp2
    go_ret
    exact ⟨by first | rfl | (simp [errW_none, errW_some] <;> rfl) | (simp [*, errW_none, errW_some] <;> rfl), by repeat (first | (with_reducible first | exact HB.1 | apply below_alloc | apply pw_below_drewN | apply below_drew1 | refine below_set ?_ GE130.out) | exact HB.1)⟩
   ·replace c6 := Bool.eq_false_iff.mpr c6
    subst c6
    have H1 : (if a0_0 = 0 then (some 0) else (if a0_0 = 1 then (policy_Check.j1 kj2 a1 a0_0 (a0_0 == 1) a0_0 a0_1 a0_2) else (policy_Check.j1 kj2 a1 a0_0 (a0_0 == 2) a0_0 a0_1 a0_2))) = some r := by rw [if_neg (show ¬ (false = true) by decide)] at H; exact H
    clear H
    have H := H1
    clear H1
    by_cases c7 : a0_0 = 0
    ·rw [if_pos c7] at H
     have c7b0 : (a0_0 == 0) = true := beq_iff_eq.mpr c7
     have c7b1 : (a0_0 != 0) = false := bne_eq_false_iff_eq.mpr c7
     clear c7
     obtain rfl := Option.some.inj H
     have hcz8_0 : wc.cell? ⟨gb130, 0, none⟩ = some (.int .i64 a0_0) := (blk_cell BK130.out 0).trans rfl
     have hcz8_1 : wc.cell? ⟨gb130, 1, none⟩ = some (.int .u8 a0_1) := (blk_cell BK130.out 1).trans rfl
     have hcz8_2 : wc.cell? ⟨gb130, 2, none⟩ = some (.int .i64 a0_2) := (blk_cell BK130.out 2).trans rfl
     have hfz8_0 := blk_frozen BK130.out 0
     have hfz8_1 := blk_frozen BK130.out 1
     have hfz8_2 := blk_frozen BK130.out 2
     go_wp2
     go_ret
     exact ⟨by first | rfl | (simp [errW_none, errW_some] <;> rfl) | (simp [*, errW_none, errW_some] <;> rfl), by repeat (first | (with_reducible first | exact HB.1 | apply below_alloc | apply pw_below_drewN | apply below_drew1 | refine below_set ?_ GE130.out) | exact HB.1)⟩
    ·rw [if_neg c7] at H
     have c7b0 : (a0_0 == 0) = false := beq_eq_false_iff_ne.mpr c7
     have c7b1 : (a0_0 != 0) = true := bne_iff_ne.mpr c7
     have HC9 := ak H
     clear H
     have hcz10_0 : wc.cell? ⟨gb130, 0, none⟩ = some (.int .i64 a0_0) := (blk_cell BK130.out 0).trans rfl
     have hcz10_1 : wc.cell? ⟨gb130, 1, none⟩ = some (.int .u8 a0_1) := (blk_cell BK130.out 1).trans rfl
     have hcz10_2 : wc.cell? ⟨gb130, 2, none⟩ = some (.int .i64 a0_2) := (blk_cell BK130.out 2).trans rfl
     have hfz10_0 := blk_frozen BK130.out 0
     have hfz10_1 := blk_frozen BK130.out 1
     have hfz10_2 := blk_frozen BK130.out 2
     go_upto_if 15 with (fail)
     go_cut [15] (fun v15 wc => ∃ (kq : Nat) (x15_8 : Bool), v15 = .bool x15_8 ∧ Aside0 (policy_Check.j1 kq a1 a0_0 x15_8 a0_0 a0_1 a0_2 = some r) ∧ Aside0 (kq ≤ kj2) ∧ Aside0 (wc.heap[gb130]? = some (.cells #[.int .i64 a0_0, .int .u8 a0_1, .int .i64 a0_2] 40 (0, 0))) ∧ Aside0 (Below w.heap.size w wc))
     case first =>
      have H := HC9.1
      clear HC9
      by_cases c11 : a0_0 = 1
      ·rw [if_pos c11] at H
       have c11b0 : (a0_0 == 1) = true := beq_iff_eq.mpr c11
       have c11b1 : (a0_0 != 1) = false := bne_eq_false_iff_eq.mpr c11
       clear c11
       (first | rw [c11b0] | (simp only [i64_w, i32_w]; rw [c11b0]) | skip)
       have H' := ak H
       clear H
       go_wp2
       go_meet
       case rel => exact ⟨_, ((a0_0 == 1)), (by first | rfl | (simp; done) | (simp [*]; done)), H', ⟨by have := HJ2.1; first | omega | exact Nat.le_refl _⟩, ⟨by (with_reducible repeat (first | refine blk_drewN ?_ _ | refine blk_drew ?_ | refine blk_alloc ?_ _)); exact BK130.out⟩, ⟨by repeat (first | (with_reducible first | exact HB.1 | apply below_alloc | apply pw_below_drewN | apply below_drew1 | refine below_set ?_ GE130.out) | exact HB.1)⟩⟩
      ·rw [if_neg c11] at H
       have c11b0 : (a0_0 == 1) = false := beq_eq_false_iff_ne.mpr c11
       have c11b1 : (a0_0 != 1) = true := bne_iff_ne.mpr c11
       (first | rw [c11b0] | (simp only [i64_w, i32_w]; rw [c11b0]) | skip)
       have H' := ak H
       clear H
       go_wp2
       go_meet
       case rel => exact ⟨_, ((a0_0 == 2)), (by first | rfl | (simp; done) | (simp [*]; done)), H', ⟨by have := HJ2.1; first | omega | exact Nat.le_refl _⟩, ⟨by (with_reducible repeat (first | refine blk_drewN ?_ _ | refine blk_drew ?_ | refine blk_alloc ?_ _)); exact BK130.out⟩, ⟨by repeat (first | (with_reducible first | exact HB.1 | apply below_alloc | apply pw_below_drewN | apply below_drew1 | refine below_set ?_ GE130.out) | exact HB.1)⟩⟩
     case rest =>
      clear HC9
      try clear c1
      try clear p2
      try clear c5
      try clear c5b0
      try clear c6
      try clear c7
      try clear c7b0
      try clear c7b1
      try clear c9
      try clear c11
      try clear c11b0
      try clear c11b1
      try clear hcz10_0
      try clear hcz10_1
      try clear hcz10_2
      try clear hcz8_0
      try clear hcz8_1
      try clear hcz8_2
      try clear hfz10_0
      try clear hfz10_1
      try clear hfz10_2
      try clear hfz8_0
      try clear hfz8_1
      try clear hfz8_2
      try clear p2
      obtain ⟨kq, x15_8, rfl, HA, HJ8, BK130, HB⟩ := hcut
      cases kq with
      | zero => exact absurd HA.1 (by simp [policy_Check.j1])
      | succ kj8 =>
       have H := HA.1
       clear HA
       simp only [policy_Check.j1] at H
       by_cases c12 : x15_8 = true
       ·subst c12
        have H1 : ((policy_sets.f a0_1 a1).bind fun t131 => (some t131)) = some r := by rw [if_pos rfl] at H; exact H
        clear H
        have H := H1
        clear H1
        replace H := Option.bind_eq_some_iff.mp H
        obtain ⟨t131, A130, H⟩ := H
        replace H : (some t131) = some r := H
        have A13 := ak A130
        clear A130
        obtain rfl := Option.some.inj H
        have hcz14_0 : wc.cell? ⟨gb130, 0, none⟩ = some (.int .i64 a0_0) := (blk_cell BK130.out 0).trans rfl
        have hcz14_1 : wc.cell? ⟨gb130, 1, none⟩ = some (.int .u8 a0_1) := (blk_cell BK130.out 1).trans rfl
        have hcz14_2 : wc.cell? ⟨gb130, 2, none⟩ = some (.int .i64 a0_2) := (blk_cell BK130.out 2).trans rfl
        have hfz14_0 := blk_frozen BK130.out 0
        have hfz14_1 := blk_frozen BK130.out 1
        have hfz14_2 := blk_frozen BK130.out 2
        go_wp2_with (first | ((with_reducible refine gate_callee (f := 153) rfl ?_); refine goesL_ (some 21) rfl rfl Tryz.func153 (by kernel_rfl) rfl #[.int .u8 a0_1, .int .i64 a1] rfl (by (try simp only [List.map_toArray, List.map_cons, List.map_nil]); first | done | rfl | (simp only [List.length_drop, List.length_take]; rfl)) ?_; (with_reducible refine (policy_sets.calls a0_1 a1 t131 _ A13.out).mono ?_); rintro e w' ⟨rfl, ⟨nd, rfl⟩⟩; refine ⟨_, rfl, ?_⟩))
        go_ret
        exact ⟨by first | rfl | (simp [errW_none, errW_some] <;> rfl) | (simp [*, errW_none, errW_some] <;> rfl), by repeat (first | (with_reducible first | exact HB.1 | apply below_alloc | apply pw_below_drewN | apply below_drew1 | refine below_set ?_ GE130.out) | exact HB.1)⟩
       ·replace c12 := Bool.eq_false_iff.mpr c12
        subst c12
        have H1 : (if a0_0 = 3 then (if a0_2 < 0 then (some 10) else (if a0_2 ≥ a1 then (some 10) else (some 0))) else (some 1)) = some r := by rw [if_neg (show ¬ (false = true) by decide)] at H; exact H
        clear H
        have H := H1
        clear H1
        by_cases c15 : a0_0 = 3
        ·rw [if_pos c15] at H
         have c15b0 : (a0_0 == 3) = true := beq_iff_eq.mpr c15
         have c15b1 : (a0_0 != 3) = false := bne_eq_false_iff_eq.mpr c15
         clear c15
         by_cases c16 : a0_2 < 0
         ·rw [if_pos c16] at H
          have c16b0 : decide (a0_2 < 0) = true := decide_eq_true c16
          clear c16
          obtain rfl := Option.some.inj H
          have hcz17_0 : wc.cell? ⟨gb130, 0, none⟩ = some (.int .i64 a0_0) := (blk_cell BK130.out 0).trans rfl
          have hcz17_1 : wc.cell? ⟨gb130, 1, none⟩ = some (.int .u8 a0_1) := (blk_cell BK130.out 1).trans rfl
          have hcz17_2 : wc.cell? ⟨gb130, 2, none⟩ = some (.int .i64 a0_2) := (blk_cell BK130.out 2).trans rfl
          have hfz17_0 := blk_frozen BK130.out 0
          have hfz17_1 := blk_frozen BK130.out 1
          have hfz17_2 := blk_frozen BK130.out 2
          go_wp2
          go_ret
          exact ⟨by first | rfl | (simp [errW_none, errW_some] <;> rfl) | (simp [*, errW_none, errW_some] <;> rfl), by repeat (first | (with_reducible first | exact HB.1 | apply below_alloc | apply pw_below_drewN | apply below_drew1 | refine below_set ?_ GE130.out) | exact HB.1)⟩
         ·rw [if_neg c16] at H
          have c16b0 : decide (a0_2 < 0) = false := decide_eq_false c16
          clear c16
          by_cases c18 : a0_2 ≥ a1
          ·rw [if_pos c18] at H
           have c18b0 : decide (a1 ≤ a0_2) = true := decide_eq_true c18
           clear c18
           obtain rfl := Option.some.inj H
           have hcz19_0 : wc.cell? ⟨gb130, 0, none⟩ = some (.int .i64 a0_0) := (blk_cell BK130.out 0).trans rfl
           have hcz19_1 : wc.cell? ⟨gb130, 1, none⟩ = some (.int .u8 a0_1) := (blk_cell BK130.out 1).trans rfl
           have hcz19_2 : wc.cell? ⟨gb130, 2, none⟩ = some (.int .i64 a0_2) := (blk_cell BK130.out 2).trans rfl
           have hfz19_0 := blk_frozen BK130.out 0
           have hfz19_1 := blk_frozen BK130.out 1
           have hfz19_2 := blk_frozen BK130.out 2
           go_wp2
           go_ret
           exact ⟨by first | rfl | (simp [errW_none, errW_some] <;> rfl) | (simp [*, errW_none, errW_some] <;> rfl), by repeat (first | (with_reducible first | exact HB.1 | apply below_alloc | apply pw_below_drewN | apply below_drew1 | refine below_set ?_ GE130.out) | exact HB.1)⟩
          ·rw [if_neg c18] at H
           have c18b0 : decide (a1 ≤ a0_2) = false := decide_eq_false c18
           clear c18
           obtain rfl := Option.some.inj H
           have hcz20_0 : wc.cell? ⟨gb130, 0, none⟩ = some (.int .i64 a0_0) := (blk_cell BK130.out 0).trans rfl
           have hcz20_1 : wc.cell? ⟨gb130, 1, none⟩ = some (.int .u8 a0_1) := (blk_cell BK130.out 1).trans rfl
           have hcz20_2 : wc.cell? ⟨gb130, 2, none⟩ = some (.int .i64 a0_2) := (blk_cell BK130.out 2).trans rfl
           have hfz20_0 := blk_frozen BK130.out 0
           have hfz20_1 := blk_frozen BK130.out 1
           have hfz20_2 := blk_frozen BK130.out 2
           go_wp2
           go_ret
           exact ⟨by first | rfl | (simp [errW_none, errW_some] <;> rfl) | (simp [*, errW_none, errW_some] <;> rfl), by repeat (first | (with_reducible first | exact HB.1 | apply below_alloc | apply pw_below_drewN | apply below_drew1 | refine below_set ?_ GE130.out) | exact HB.1)⟩
        ·rw [if_neg c15] at H
         have c15b0 : (a0_0 == 3) = false := beq_eq_false_iff_ne.mpr c15
         have c15b1 : (a0_0 != 3) = true := bne_iff_ne.mpr c15
         obtain rfl := Option.some.inj H
         go_wp2
         go_ret
         exact ⟨by first | rfl | (simp [errW_none, errW_some] <;> rfl) | (simp [*, errW_none, errW_some] <;> rfl), by repeat (first | (with_reducible first | exact HB.1 | apply below_alloc | apply pw_below_drewN | apply below_drew1 | refine below_set ?_ GE130.out) | exact HB.1)⟩
def policy_Permitted.f (k : Nat) (a0_0 : Int) (a0_1 : Int) (a0_2 : Int) (a1 : Int) : Option (Int × Int) := (policy_Check.f k a0_0 a0_1 a0_2 a1).bind fun t133 => (if t133 = 0 then (if a0_0 = 1 then (some (a0_1, 0)) else ((nodeset_All.f a1).bind fun bt134 => (some (bt134.1, bt134.2)))) else (some (0, t133)))
theorem policy_Permitted.calls (k : Nat) (a0_0 : Int) (a0_1 : Int) (a0_2 : Int) (a1 : Int) (r1 : Int) (r2 : Int) (w : World) (h : policy_Permitted.f k a0_0 a0_1 a0_2 a1 = some (r1, r2)) :
 Calls Tryz.prog 49 #[.agg #[.int .i64 a0_0, .int .u8 a0_1, .int .i64 a0_2], .int .i64 a1] w fun e w' => e = .returned (.tuple #[.int .u8 r1, .int .i64 r2]) ∧ Below w.heap.size w w' := by
 have hu40 := Tryz.underlying40
 have HB := ak (Below.refl w.heap.size w)
 have H : ((policy_Check.f k a0_0 a0_1 a0_2 a1).bind fun t133 => (if t133 = 0 then (if a0_0 = 1 then (some (a0_1, 0)) else ((nodeset_All.f a1).bind fun bt134 => (some (bt134.1, bt134.2)))) else (some (0, t133)))) = some (r1, r2) := h
 clear h
 replace H := Option.bind_eq_some_iff.mp H
 obtain ⟨t133, A30, H⟩ := H
 replace H : (if t133 = 0 then (if a0_0 = 1 then (some (a0_1, 0)) else ((nodeset_All.f a1).bind fun bt134 => (some (bt134.1, bt134.2)))) else (some (0, t133))) = some (r1, r2) := H
 have A3 := ak A30
 clear A30
 by_cases c4 : t133 = 0
 ·rw [if_pos c4] at H
  have c4b0 : (t133 == 0) = true := beq_iff_eq.mpr c4
  have c4b1 : (t133 != 0) = false := bne_eq_false_iff_eq.mpr c4
  clear c4
  by_cases c5 : a0_0 = 1
  ·rw [if_pos c5] at H
   have c5b0 : (a0_0 == 1) = true := beq_iff_eq.mpr c5
   have c5b1 : (a0_0 != 1) = false := bne_eq_false_iff_eq.mpr c5
   clear c5
   simp only [Option.some.injEq, Prod.mk.injEq] at H
   obtain ⟨rfl, rfl⟩ := H
   go_enter Tryz.func49, Tryz.ntmps49
   go_wp2_with (first | ((with_reducible refine gate_dst (N := 2) rfl ?_); refine box_event ?hg (N := 2) ?hd (cs := #[.int .i64 a0_0, .int .u8 a0_1, .int .i64 a0_2]) (t := 40) ?hr ?_; (case hd => rfl); (case hg => rfl); (case hr => first | (go_simp; done) | (go_simp; rfl)); intro gb132 hg w6 hbox hb; have n0_ := ak (below_step (by repeat (first | (with_reducible first | exact HB.1 | apply below_alloc | apply pw_below_drewN | apply below_drew1) | exact HB.1)) hb); have n1_ := ak (hbox); have n2_ := ak ((by rw [hg]; exact (below_size (by repeat (first | (with_reducible first | exact HB.1 | apply below_alloc | apply pw_below_drewN | apply below_drew1) | exact HB.1))) : w.heap.size ≤ gb132)); have n3_ := ak ((by rw [hg]; exact (below_size (by repeat (first | (with_reducible first | exact HB.1 | apply below_alloc | apply pw_below_drewN | apply below_drew1) | exact HB.1))) : w.heap.size ≤ gb132)); clear HB; have HB := n0_; have BK132 := n1_; have GW132 := n2_; have GE132 := n3_; clear n0_ n1_ n2_ n3_; clear hb hbox hg; have hcz7_0 : w6.cell? ⟨gb132, 0, none⟩ = some (.int .i64 a0_0) := (blk_cell BK132.out 0).trans rfl; have hcz7_1 : w6.cell? ⟨gb132, 1, none⟩ = some (.int .u8 a0_1) := (blk_cell BK132.out 1).trans rfl; have hcz7_2 : w6.cell? ⟨gb132, 2, none⟩ = some (.int .i64 a0_2) := (blk_cell BK132.out 2).trans rfl; have hfz7_0 := blk_frozen BK132.out 0; have hfz7_1 := blk_frozen BK132.out 1; have hfz7_2 := blk_frozen BK132.out 2) | ((with_reducible refine gate_callee (f := 99) rfl ?_); refine goesL_ (some 9) rfl rfl Tryz.func99 (by kernel_rfl) rfl #[.agg #[.int .i64 a0_0, .int .u8 a0_1, .int .i64 a0_2], .int .i64 a1] rfl (by (try simp only [List.map_toArray, List.map_cons, List.map_nil]); first | done | rfl | (simp only [List.length_drop, List.length_take]; rfl)) ?_; (with_reducible refine (policy_Check.calls k a0_0 a0_1 a0_2 a1 t133 _ A3.out).mono ?_); rintro e w8 ⟨rfl, hb⟩; refine ⟨_, rfl, ?_⟩; have n0_ := ak (blk_below (g := gb132) (o := .cells #[.int .i64 a0_0, .int .u8 a0_1, .int .i64 a0_2] 40 (0, 0)) (by (with_reducible repeat (first | refine blk_drewN ?_ _ | refine blk_drew ?_ | refine blk_alloc ?_ _)); exact BK132.out) hb); have n1_ := ak (below_step (by repeat (first | (with_reducible first | exact HB.1 | apply below_alloc | apply pw_below_drewN | apply below_drew1 | refine below_set ?_ GE132.out) | exact HB.1)) hb); clear BK132; clear HB; have BK132 := n0_; have HB := n1_; clear n0_ n1_; (try clear hb); (try clear hb2); (try clear hk); (try clear hi); have hcz9_0 : w8.cell? ⟨gb132, 0, none⟩ = some (.int .i64 a0_0) := (blk_cell BK132.out 0).trans rfl; have hcz9_1 : w8.cell? ⟨gb132, 1, none⟩ = some (.int .u8 a0_1) := (blk_cell BK132.out 1).trans rfl; have hcz9_2 : w8.cell? ⟨gb132, 2, none⟩ = some (.int .i64 a0_2) := (blk_cell BK132.out 2).trans rfl; have hfz9_0 := blk_frozen BK132.out 0; have hfz9_1 := blk_frozen BK132.out 1; have hfz9_2 := blk_frozen BK132.out 2))
   go_ret2
   exact ⟨by first | rfl | (simp [errW_none, errW_some] <;> rfl) | (simp [*, errW_none, errW_some] <;> rfl), by repeat (first | (with_reducible first | exact HB.1 | apply below_alloc | apply pw_below_drewN | apply below_drew1 | refine below_set ?_ GE132.out) | exact HB.1)⟩
  ·rw [if_neg c5] at H
   have c5b0 : (a0_0 == 1) = false := beq_eq_false_iff_ne.mpr c5
   have c5b1 : (a0_0 != 1) = true := bne_iff_ne.mpr c5
   replace H := Option.bind_eq_some_iff.mp H
   obtain ⟨⟨t134, t135⟩, A100, H⟩ := H
   replace H : (some (t134, t135)) = some (r1, r2) := H
   have A10 := ak A100
   clear A100
   simp only [Option.some.injEq, Prod.mk.injEq] at H
   obtain ⟨rfl, rfl⟩ := H
   go_enter Tryz.func49, Tryz.ntmps49
   go_wp2_with (first | ((with_reducible refine gate_dst (N := 2) rfl ?_); refine box_event ?hg (N := 2) ?hd (cs := #[.int .i64 a0_0, .int .u8 a0_1, .int .i64 a0_2]) (t := 40) ?hr ?_; (case hd => rfl); (case hg => rfl); (case hr => first | (go_simp; done) | (go_simp; rfl)); intro gb132 hg w11 hbox hb; have n0_ := ak (below_step (by repeat (first | (with_reducible first | exact HB.1 | apply below_alloc | apply pw_below_drewN | apply below_drew1) | exact HB.1)) hb); have n1_ := ak (hbox); have n2_ := ak ((by rw [hg]; exact (below_size (by repeat (first | (with_reducible first | exact HB.1 | apply below_alloc | apply pw_below_drewN | apply below_drew1) | exact HB.1))) : w.heap.size ≤ gb132)); have n3_ := ak ((by rw [hg]; exact (below_size (by repeat (first | (with_reducible first | exact HB.1 | apply below_alloc | apply pw_below_drewN | apply below_drew1) | exact HB.1))) : w.heap.size ≤ gb132)); clear HB; have HB := n0_; have BK132 := n1_; have GW132 := n2_; have GE132 := n3_; clear n0_ n1_ n2_ n3_; clear hb hbox hg; have hcz12_0 : w11.cell? ⟨gb132, 0, none⟩ = some (.int .i64 a0_0) := (blk_cell BK132.out 0).trans rfl; have hcz12_1 : w11.cell? ⟨gb132, 1, none⟩ = some (.int .u8 a0_1) := (blk_cell BK132.out 1).trans rfl; have hcz12_2 : w11.cell? ⟨gb132, 2, none⟩ = some (.int .i64 a0_2) := (blk_cell BK132.out 2).trans rfl; have hfz12_0 := blk_frozen BK132.out 0; have hfz12_1 := blk_frozen BK132.out 1; have hfz12_2 := blk_frozen BK132.out 2) | ((with_reducible refine gate_callee (f := 99) rfl ?_); refine goesL_ (some 9) rfl rfl Tryz.func99 (by kernel_rfl) rfl #[.agg #[.int .i64 a0_0, .int .u8 a0_1, .int .i64 a0_2], .int .i64 a1] rfl (by (try simp only [List.map_toArray, List.map_cons, List.map_nil]); first | done | rfl | (simp only [List.length_drop, List.length_take]; rfl)) ?_; (with_reducible refine (policy_Check.calls k a0_0 a0_1 a0_2 a1 t133 _ A3.out).mono ?_); rintro e w13 ⟨rfl, hb⟩; refine ⟨_, rfl, ?_⟩; have n0_ := ak (blk_below (g := gb132) (o := .cells #[.int .i64 a0_0, .int .u8 a0_1, .int .i64 a0_2] 40 (0, 0)) (by (with_reducible repeat (first | refine blk_drewN ?_ _ | refine blk_drew ?_ | refine blk_alloc ?_ _)); exact BK132.out) hb); have n1_ := ak (below_step (by repeat (first | (with_reducible first | exact HB.1 | apply below_alloc | apply pw_below_drewN | apply below_drew1 | refine below_set ?_ GE132.out) | exact HB.1)) hb); clear BK132; clear HB; have BK132 := n0_; have HB := n1_; clear n0_ n1_; (try clear hb); (try clear hb2); (try clear hk); (try clear hi); have hcz14_0 : w13.cell? ⟨gb132, 0, none⟩ = some (.int .i64 a0_0) := (blk_cell BK132.out 0).trans rfl; have hcz14_1 : w13.cell? ⟨gb132, 1, none⟩ = some (.int .u8 a0_1) := (blk_cell BK132.out 1).trans rfl; have hcz14_2 : w13.cell? ⟨gb132, 2, none⟩ = some (.int .i64 a0_2) := (blk_cell BK132.out 2).trans rfl; have hfz14_0 := blk_frozen BK132.out 0; have hfz14_1 := blk_frozen BK132.out 1; have hfz14_2 := blk_frozen BK132.out 2) | ((with_reducible refine gate_callee (f := 53) rfl ?_); refine goesL_ (some 19) rfl rfl Tryz.func53 (by kernel_rfl) rfl #[.int .i64 a1] rfl (by (try simp only [List.map_toArray, List.map_cons, List.map_nil]); first | done | rfl | (simp only [List.length_drop, List.length_take]; rfl)) ?_; (with_reducible refine (nodeset_All.calls a1 t134 t135 _ A10.out).mono ?_); rintro e w' ⟨rfl, ⟨nd, rfl⟩⟩; refine ⟨_, rfl, ?_⟩))
   go_ret2
   exact ⟨by first | rfl | (simp [errW_none, errW_some] <;> rfl) | (simp [*, errW_none, errW_some] <;> rfl), by repeat (first | (with_reducible first | exact HB.1 | apply below_alloc | apply pw_below_drewN | apply below_drew1 | refine below_set ?_ GE132.out) | exact HB.1)⟩
 ·rw [if_neg c4] at H
  have c4b0 : (t133 == 0) = false := beq_eq_false_iff_ne.mpr c4
  have c4b1 : (t133 != 0) = true := bne_iff_ne.mpr c4
  simp only [Option.some.injEq, Prod.mk.injEq] at H
  obtain ⟨rfl, rfl⟩ := H
  go_enter Tryz.func49, Tryz.ntmps49
  go_wp2_with (first | ((with_reducible refine gate_dst (N := 2) rfl ?_); refine box_event ?hg (N := 2) ?hd (cs := #[.int .i64 a0_0, .int .u8 a0_1, .int .i64 a0_2]) (t := 40) ?hr ?_; (case hd => rfl); (case hg => rfl); (case hr => first | (go_simp; done) | (go_simp; rfl)); intro gb132 hg w15 hbox hb; have n0_ := ak (below_step (by repeat (first | (with_reducible first | exact HB.1 | apply below_alloc | apply pw_below_drewN | apply below_drew1) | exact HB.1)) hb); have n1_ := ak (hbox); have n2_ := ak ((by rw [hg]; exact (below_size (by repeat (first | (with_reducible first | exact HB.1 | apply below_alloc | apply pw_below_drewN | apply below_drew1) | exact HB.1))) : w.heap.size ≤ gb132)); have n3_ := ak ((by rw [hg]; exact (below_size (by repeat (first | (with_reducible first | exact HB.1 | apply below_alloc | apply pw_below_drewN | apply below_drew1) | exact HB.1))) : w.heap.size ≤ gb132)); clear HB; have HB := n0_; have BK132 := n1_; have GW132 := n2_; have GE132 := n3_; clear n0_ n1_ n2_ n3_; clear hb hbox hg; have hcz16_0 : w15.cell? ⟨gb132, 0, none⟩ = some (.int .i64 a0_0) := (blk_cell BK132.out 0).trans rfl; have hcz16_1 : w15.cell? ⟨gb132, 1, none⟩ = some (.int .u8 a0_1) := (blk_cell BK132.out 1).trans rfl; have hcz16_2 : w15.cell? ⟨gb132, 2, none⟩ = some (.int .i64 a0_2) := (blk_cell BK132.out 2).trans rfl; have hfz16_0 := blk_frozen BK132.out 0; have hfz16_1 := blk_frozen BK132.out 1; have hfz16_2 := blk_frozen BK132.out 2) | ((with_reducible refine gate_callee (f := 99) rfl ?_); refine goesL_ (some 9) rfl rfl Tryz.func99 (by kernel_rfl) rfl #[.agg #[.int .i64 a0_0, .int .u8 a0_1, .int .i64 a0_2], .int .i64 a1] rfl (by (try simp only [List.map_toArray, List.map_cons, List.map_nil]); first | done | rfl | (simp only [List.length_drop, List.length_take]; rfl)) ?_; (with_reducible refine (policy_Check.calls k a0_0 a0_1 a0_2 a1 t133 _ A3.out).mono ?_); rintro e w17 ⟨rfl, hb⟩; refine ⟨_, rfl, ?_⟩; have n0_ := ak (blk_below (g := gb132) (o := .cells #[.int .i64 a0_0, .int .u8 a0_1, .int .i64 a0_2] 40 (0, 0)) (by (with_reducible repeat (first | refine blk_drewN ?_ _ | refine blk_drew ?_ | refine blk_alloc ?_ _)); exact BK132.out) hb); have n1_ := ak (below_step (by repeat (first | (with_reducible first | exact HB.1 | apply below_alloc | apply pw_below_drewN | apply below_drew1 | refine below_set ?_ GE132.out) | exact HB.1)) hb); clear BK132; clear HB; have BK132 := n0_; have HB := n1_; clear n0_ n1_; (try clear hb); (try clear hb2); (try clear hk); (try clear hi)))
  go_ret2
  exact ⟨by first | rfl | (simp [errW_none, errW_some] <;> rfl) | (simp [*, errW_none, errW_some] <;> rfl), by repeat (first | (with_reducible first | exact HB.1 | apply below_alloc | apply pw_below_drewN | apply below_drew1 | refine below_set ?_ GE132.out) | exact HB.1)⟩
attribute [local go_sem] max2_int min2_int max_two min_two max_three min_three max_four min_four
def nodeset_List.l0 : Nat → Int → List Int → Option (List Int)
 | 0, _, _ => none
 | k + 1, x0, x3 => if x0 = 0 then (some x3) else ((bits_TrailingZeros8.f x0).bind fun t156 => (if x3.length < 17592186044416 then (nodeset_List.l0 k (Go.bits .and .u8 x0 ((x0 - 1) % 256)) (x3 ++ [t156])) else (none)))
def nodeset_List.f (k : Nat) (a0 : Int) : Option (List Int) := nodeset_List.l0 k a0 ([] : List Int)
theorem nodeset_List.calls (k : Nat) (a0 : Int) (r : List Int) (w : World) (h : nodeset_List.f k a0 = some r) :
 Calls Tryz.prog 198 #[.int .u8 a0] w fun e w' => ∃ v0_ : Value, e = .returned (v0_) ∧ Kd.R (Kd.int .i64) 3 w' w.heap.size (fun _ => True) v0_ r ∧ Below w.heap.size w w' := by
 have HB := ak (Below.refl w.heap.size w)
 have H : (nodeset_List.l0 k a0 ([] : List Int)) = some r := h
 clear h
 have H' := ak H
 clear H
 go_enter Tryz.func198, Tryz.ntmps198
 go_wp2
 go_loopg [0, 3] k (fun kq v0 v3 w' => ∃ (x0_1 : Int) (x3_1 : List Int), v0 = .int .u8 x0_1 ∧ Aside0 (nodeset_List.l0 kq x0_1 x3_1 = some r) ∧ Aside0 (kq ≤ k) ∧ Aside0 (Kd.R (Kd.int .i64) 3 w' w.heap.size (fun _ => True) v3 x3_1) ∧ Aside0 (Below w.heap.size w w'))
 case atStart => exact ⟨(a0), (([] : List Int)), (by first | rfl | (simp; done) | (simp [*]; done)), H', ⟨Nat.le_refl _⟩, ⟨by first | exact Kd.R_nil _ _ _ _ _ | exact Kd.N_nil _ _ _ _ _ | exact Kd.V_nil _ _ _ _ _ | exact Kd.Q_nil _ _ _ _ _ | exact Kd.S_nil _ _ _ _ _⟩, ⟨by repeat (first | (with_reducible first | exact HB.1 | apply below_alloc | apply pw_below_drewN | apply below_drew1) | exact HB.1)⟩⟩
 case round =>
  clear H'
  try clear c1
  obtain ⟨x0_1, x3_1, rfl, HA, HK1, HO_3, HB⟩ := hrel
  cases gk with
  | zero => exact absurd HA.1 (by simp [nodeset_List.l0])
  | succ k1 =>
   have H := HA.1
   clear HA
   simp only [nodeset_List.l0] at H
   by_cases c2 : x0_1 = 0
   ·rw [if_pos c2] at H
    have c2b0 : (x0_1 == 0) = true := beq_iff_eq.mpr c2
    have c2b1 : (x0_1 != 0) = false := bne_eq_false_iff_eq.mpr c2
    clear c2
    obtain rfl := Option.some.inj H
    go_wp2
    go_ret
    exact ⟨_, by first | rfl | (simp [errW_none, errW_some] <;> rfl) | (simp [*, errW_none, errW_some] <;> rfl), by (with_reducible repeat (first | apply Kd.R_alloc | apply Kd.R_drewN | apply Kd.R_drew)); exact HO_3.1, by repeat (first | (with_reducible first | exact HB.1 | apply below_alloc | apply pw_below_drewN | apply below_drew1) | exact HB.1)⟩
   ·rw [if_neg c2] at H
    have c2b0 : (x0_1 == 0) = false := beq_eq_false_iff_ne.mpr c2
    have c2b1 : (x0_1 != 0) = true := bne_iff_ne.mpr c2
    replace H := Option.bind_eq_some_iff.mp H
    obtain ⟨t156, A30, H⟩ := H
    replace H : (if x3_1.length < 17592186044416 then (nodeset_List.l0 k1 (Go.bits .and .u8 x0_1 ((x0_1 - 1) % 256)) (x3_1 ++ [t156])) else (none)) = some r := H
    have A3 := ak A30
    clear A30
    by_cases c4 : x3_1.length < 17592186044416
    ·rw [if_pos c4] at H
     have LMc4 := ak c4
     clear c4
     obtain ⟨y157, hy157⟩ : ∃ y_ : List Int, y_ = (x3_1 ++ [t156]) := ⟨_, rfl⟩
     replace H : (nodeset_List.l0 k1 (Go.bits .and .u8 x0_1 ((x0_1 - 1) % 256)) y157) = some r := by first | (rw [hy157]; with_reducible exact H) | (have H2_ := (Option.bind_some _ _).symm.trans H; rw [hy157]; with_reducible exact H2_) | (have H2_ := (Option.bind_some _ _).symm.trans H; with_reducible exact H2_) | with_reducible exact H | (rw [hy157]; exact H) | exact H
     have Ny157 := ak hy157
     clear hy157
     have H' := ak H
     clear H
     go_wp2_with (first | ((with_reducible refine gate_callee (f := 223) rfl ?_); refine goesL_ (some 12) rfl rfl Tryz.func223 (by kernel_rfl) rfl #[.int .u8 x0_1] rfl (by (try simp only [List.map_toArray, List.map_cons, List.map_nil]); first | done | rfl | (simp only [List.length_drop, List.length_take]; rfl)) ?_; (with_reducible refine (bits_TrailingZeros8.calls x0_1 t156 _ A3.out).mono ?_); rintro e w' ⟨rfl, ⟨nd, rfl⟩⟩; refine ⟨_, rfl, ?_⟩) | ((with_reducible refine gate_builtin (b := .append) (xs := #[.tmp 10, .tmp 13]) rfl ?_); at_builtin; refine Kd.R_append (Kd.int .i64) (w0 := w) w.heap.size rfl (.tmp 10) (.tmp 13) 34 3 (.int .i64 0) 8 rfl Tryz.underlying34 info3 rfl (by decide) (by omega) u3 x3_1 t156 [.int .i64 t156] (fun _ => True) (fun _ => False) rfl rfl ?aP (fun _ hk => hk.elim) ?aF ?aO ?aB ?aS ?aL ?_; (case aP => exact rfl); (case aB => exact (by repeat (first | (with_reducible first | exact HB.1 | apply below_alloc | apply pw_below_drewN | apply below_drew1) | exact HB.1))); (case aF => exact (fun _ _ => trivial)); (case aO => exact (by (with_reducible repeat (first | apply Kd.R_alloc | apply Kd.R_drewN | apply Kd.R_drew)); exact HO_3.1)); (case aS => exact (below_size (by repeat (first | (with_reducible first | exact HB.1 | apply below_alloc | apply pw_below_drewN | apply below_drew1) | exact HB.1)))); (case aL => have := LMc4.out; omega); intro v158 w5 ho hb hg hat; rw [← Ny157.out] at ho; have n0_ := ak (hb); have n1_ := ak (ho); clear HB; clear HO_3; have HB := n0_; have HO159 := n1_; clear n0_ n1_; clear ho hb hg hat))
     go_roundg k1
     case measure => have := HK1.1; omega
     case rel => exact ⟨(Go.bits .and .u8 x0_1 ((x0_1 - 1) % 256)), (y157), (by first | rfl | (simp; done) | (simp [*]; done)), H', ⟨by have := HK1.1; omega⟩, ⟨by (with_reducible repeat (first | apply Kd.R_alloc | apply Kd.R_drewN | apply Kd.R_drew)); exact HO159.1⟩, ⟨by repeat (first | (with_reducible first | exact HB.1 | apply below_alloc | apply pw_below_drewN | apply below_drew1) | exact HB.1)⟩⟩
    ·rw [if_neg c4] at H
     exact absurd H (by simp)
def nodeset_Next.l0 : Nat → Int → List Int → List Int → Int → Int → Option (Int × Bool)
 | 0, _, _, _, _, _ => none
 | k + 1, x1, x6, x11, x12, x13 => if x13 < x12 then (if 0 ≤ x13 then (if x13 < (x11.length : Int) then (if (rd x11 x13) > x1 then (some (rd x11 x13, true)) else (nodeset_Next.l0 k x1 x6 x11 x12 (wrap64 (x13 + 1)))) else (none)) else (none)) else (if (x6.length : Int) = 0 then (some (0, false)) else (if 0 < (x6.length : Int) then (some (rd x6 0, true)) else (none)))
def nodeset_Next.f (k : Nat) (a0 : Int) (a1 : Int) : Option (Int × Bool) := (nodeset_List.f k a0).bind fun t160 => (nodeset_Next.l0 k a1 t160 t160 (t160.length : Int) 0)
theorem nodeset_Next.calls (k : Nat) (a0 : Int) (a1 : Int) (r1 : Int) (r2 : Bool) (w : World) (h : nodeset_Next.f k a0 a1 = some (r1, r2)) :
 Calls Tryz.prog 161 #[.int .u8 a0, .int .i64 a1] w fun e w' => e = .returned (.tuple #[.int .i64 r1, .bool r2]) ∧ Below w.heap.size w w' := by
 have HB := ak (Below.refl w.heap.size w)
 have H : ((nodeset_List.f k a0).bind fun t160 => (nodeset_Next.l0 k a1 t160 t160 (t160.length : Int) 0)) = some (r1, r2) := h
 clear h
 replace H := Option.bind_eq_some_iff.mp H
 obtain ⟨t160, A30, H⟩ := H
 replace H : (nodeset_Next.l0 k a1 t160 t160 (t160.length : Int) 0) = some (r1, r2) := H
 have A3 := ak A30
 clear A30
 have H' := ak H
 clear H
 go_enter Tryz.func161, Tryz.ntmps161
 go_wp2_with (first | ((with_reducible refine gate_callee (f := 198) rfl ?_); refine goesL_ (some 10) rfl rfl Tryz.func198 (by kernel_rfl) rfl #[.int .u8 a0] rfl (by (try simp only [List.map_toArray, List.map_cons, List.map_nil]); first | done | rfl | (simp only [List.length_drop, List.length_take]; rfl)) ?_; (with_reducible refine (nodeset_List.calls k a0 t160 _ A3.out).mono ?_); rintro e w4 ⟨v161, rfl, ho0, hb⟩; refine ⟨_, rfl, ?_⟩; have n0_ := ak (Kd.R_lower ho0 (below_size (by repeat (first | (with_reducible first | exact HB.1 | apply below_alloc | apply pw_below_drewN | apply below_drew1) | exact HB.1)))); have n1_ := ak (below_step (by repeat (first | (with_reducible first | exact HB.1 | apply below_alloc | apply pw_below_drewN | apply below_drew1) | exact HB.1)) hb); clear HB; have HO162 := n0_; have HB := n1_; clear n0_ n1_; (try clear hb); (try clear hb2); (try clear hk); (try clear hi); (try clear ho0); obtain ⟨Ao5, co5, eo5⟩ := Kd.R_slice HO162.1; subst eo5))
 go_loopg [13] k (fun kq v13 w' => ∃ (x13_1 : Int), v13 = .int .i64 x13_1 ∧ Aside0 (nodeset_Next.l0 kq a1 t160 t160 (t160.length : Int) x13_1 = some (r1, r2)) ∧ Aside0 (kq ≤ k) ∧ Aside0 (Kd.R (Kd.int .i64) 3 w' w.heap.size (fun _ => True) (.slice Ao5 t160.length co5) t160) ∧ Aside0 (Kd.R (Kd.int .i64) 3 w' w.heap.size (fun _ => True) (.slice Ao5 t160.length co5) t160) ∧ Aside0 (Below w.heap.size w w'))
 case atStart => exact ⟨(0), (by first | rfl | (simp; done) | (simp [*]; done)), H', ⟨Nat.le_refl _⟩, ⟨by (with_reducible repeat (first | apply Kd.R_alloc | apply Kd.R_drewN | apply Kd.R_drew)); exact HO162.1⟩, ⟨by (with_reducible repeat (first | apply Kd.R_alloc | apply Kd.R_drewN | apply Kd.R_drew)); exact HO162.1⟩, ⟨by repeat (first | (with_reducible first | exact HB.1 | apply below_alloc | apply pw_below_drewN | apply below_drew1) | exact HB.1)⟩⟩
 case round =>
  clear H'
  try clear c1
  try clear p2
  obtain ⟨x13_1, rfl, HA, HK1, HO_6, HO_11, HB⟩ := hrel
  cases gk with
  | zero => exact absurd HA.1 (by simp [nodeset_Next.l0])
  | succ k1 =>
   have H := HA.1
   clear HA
   simp only [nodeset_Next.l0] at H
   by_cases c6 : x13_1 < (t160.length : Int)
   ·rw [if_pos c6] at H
    have c6b0 : decide (x13_1 < (t160.length : Int)) = true := decide_eq_true c6
    clear c6
    by_cases c7 : 0 ≤ x13_1
    ·rw [if_pos c7] at H
     have c7b0 : decide (0 ≤ x13_1) = true := decide_eq_true c7
     clear c7
     by_cases c8 : x13_1 < (t160.length : Int)
     ·rw [if_pos c8] at H
      have c8b0 : decide (x13_1 < (t160.length : Int)) = true := decide_eq_true c8
      clear c8
      by_cases c9 : (rd t160 x13_1) > a1
      ·rw [if_pos c9] at H
       have c9b0 : decide (a1 < (rd t160 x13_1)) = true := decide_eq_true c9
       clear c9
       simp only [Option.some.injEq, Prod.mk.injEq] at H
       obtain ⟨rfl, rfl⟩ := H
       have p163 : 0 ≤ (x13_1 : Int) := of_decide_eq_true (by first | (with_reducible assumption) | assumption)
       have q163 : x13_1 < (t160.length : Int) := of_decide_eq_true (by first | (with_reducible assumption) | assumption)
       obtain ⟨ad163, e163, hx163_0⟩ := Kd.at_int (Kd.R_reads' HO_11.1).2.2 x13_1 p163 q163
       cases e163
       replace p163 := eq_true p163
       replace q163 := eq_true q163
       go_wp2
       go_ret2
       exact ⟨by first | rfl | (simp [errW_none, errW_some] <;> rfl) | (simp [*, errW_none, errW_some] <;> rfl), by repeat (first | (with_reducible first | exact HB.1 | apply below_alloc | apply pw_below_drewN | apply below_drew1) | exact HB.1)⟩
      ·rw [if_neg c9] at H
       have c9b0 : decide (a1 < (rd t160 x13_1)) = false := decide_eq_false c9
       clear c9
       have H' := ak H
       clear H
       have p163 : 0 ≤ (x13_1 : Int) := of_decide_eq_true (by first | (with_reducible assumption) | assumption)
       have q163 : x13_1 < (t160.length : Int) := of_decide_eq_true (by first | (with_reducible assumption) | assumption)
       obtain ⟨ad163, e163, hx163_0⟩ := Kd.at_int (Kd.R_reads' HO_11.1).2.2 x13_1 p163 q163
       cases e163
       replace p163 := eq_true p163
       replace q163 := eq_true q163
       go_wp2
       go_roundg k1
       case measure => have := HK1.1; omega
       case rel => exact ⟨(wrap64 (x13_1 + 1)), (by first | rfl | (simp; done) | (simp [*]; done)), H', ⟨by have := HK1.1; omega⟩, ⟨by (with_reducible repeat (first | apply Kd.R_alloc | apply Kd.R_drewN | apply Kd.R_drew)); exact HO_6.1⟩, ⟨by (with_reducible repeat (first | apply Kd.R_alloc | apply Kd.R_drewN | apply Kd.R_drew)); exact HO_11.1⟩, ⟨by repeat (first | (with_reducible first | exact HB.1 | apply below_alloc | apply pw_below_drewN | apply below_drew1) | exact HB.1)⟩⟩
     ·rw [if_neg c8] at H
      exact absurd H (by simp)
    ·rw [if_neg c7] at H
     exact absurd H (by simp)
   ·rw [if_neg c6] at H
    have c6b0 : decide (x13_1 < (t160.length : Int)) = false := decide_eq_false c6
    clear c6
    by_cases c10 : (t160.length : Int) = 0
    ·rw [if_pos c10] at H
     have c10b0 : ((t160.length : Int) == 0) = true := beq_iff_eq.mpr c10
     have c10b1 : ((t160.length : Int) != 0) = false := bne_eq_false_iff_eq.mpr c10
     clear c10
     simp only [Option.some.injEq, Prod.mk.injEq] at H
     obtain ⟨rfl, rfl⟩ := H
     go_wp2
     go_ret2
     exact ⟨by first | rfl | (simp [errW_none, errW_some] <;> rfl) | (simp [*, errW_none, errW_some] <;> rfl), by repeat (first | (with_reducible first | exact HB.1 | apply below_alloc | apply pw_below_drewN | apply below_drew1) | exact HB.1)⟩
    ·rw [if_neg c10] at H
     have c10b0 : ((t160.length : Int) == 0) = false := beq_eq_false_iff_ne.mpr c10
     have c10b1 : ((t160.length : Int) != 0) = true := bne_iff_ne.mpr c10
     have c10b2 : ¬ (t160 = []) := fun h_ => c10 (by rw [h_]; rfl)
     by_cases c11 : 0 < (t160.length : Int)
     ·rw [if_pos c11] at H
      have c11b0 : decide (0 < (t160.length : Int)) = true := decide_eq_true c11
      have c11b1 : decide (0 < t160.length) = true := decide_eq_true (by omega)
      clear c11
      simp only [Option.some.injEq, Prod.mk.injEq] at H
      obtain ⟨rfl, rfl⟩ := H
      have p164 : 0 ≤ (0 : Int) := (by omega)
      have q164 : 0 < (t160.length : Int) := of_decide_eq_true (by first | (with_reducible assumption) | assumption)
      obtain ⟨ad164, e164, hx164_0⟩ := Kd.at_int (Kd.R_reads' HO_6.1).2.2 0 p164 q164
      cases e164
      have qi164 : (0 < t160.length) = True := eq_true (by omega)
      (try rw [show ((0 : Int)).toNat = 0 from rfl] at hx164_0)
      (try rw [Addr.add_zero'] at hx164_0)
      replace p164 := eq_true p164
      replace q164 := eq_true q164
      go_wp2
      go_ret2
      exact ⟨by first | rfl | (simp [errW_none, errW_some] <;> rfl) | (simp [*, errW_none, errW_some] <;> rfl), by repeat (first | (with_reducible first | exact HB.1 | apply below_alloc | apply pw_below_drewN | apply below_drew1) | exact HB.1)⟩
     ·rw [if_neg c11] at H
      exact absurd H (by simp)
def policy_Start.j0 : Nat → Int → Int → Bool → Int → Int → Int → Option (Int × Int × Int)
 | 0, _, _, _, _, _, _ => none
 | k + 1, x2, x3, x26, x166000, x166001, x166002 => if x26 = true then (some (0, 0, 10)) else (if x166000 = 2 then ((nodeset_Next.f k x166001 x3).bind fun bt167 => (some (bt167.1, bt167.1, 0))) else (if x166000 = 3 then (some (x166002, x3, 0)) else (some (x2, x3, 0))))
def policy_Start.f (k : Nat) (a0_0 : Int) (a0_1 : Int) (a0_2 : Int) (a1 : Int) (a2 : Int) (a3 : Int) : Option (Int × Int × Int) := (policy_Check.f k a0_0 a0_1 a0_2 a1).bind fun t166 => (if t166 = 0 then (if a2 < 0 then (policy_Start.j0 k a2 a3 true a0_0 a0_1 a0_2) else (policy_Start.j0 k a2 a3 (decide (a2 ≥ a1)) a0_0 a0_1 a0_2)) else (some (0, 0, t166)))
theorem policy_Start.calls (k : Nat) (a0_0 : Int) (a0_1 : Int) (a0_2 : Int) (a1 : Int) (a2 : Int) (a3 : Int) (r1 : Int) (r2 : Int) (r3 : Int) (w : World) (h : policy_Start.f k a0_0 a0_1 a0_2 a1 a2 a3 = some (r1, r2, r3)) :
 Calls Tryz.prog 110 #[.agg #[.int .i64 a0_0, .int .u8 a0_1, .int .i64 a0_2], .int .i64 a1, .int .i64 a2, .int .i64 a3] w fun e w' => e = .returned (.tuple #[.int .i64 r1, .int .i64 r2, .int .i64 r3]) ∧ Below w.heap.size w w' := by
 have hu40 := Tryz.underlying40
 have HB := ak (Below.refl w.heap.size w)
 have H : ((policy_Check.f k a0_0 a0_1 a0_2 a1).bind fun t166 => (if t166 = 0 then (if a2 < 0 then (policy_Start.j0 k a2 a3 true a0_0 a0_1 a0_2) else (policy_Start.j0 k a2 a3 (decide (a2 ≥ a1)) a0_0 a0_1 a0_2)) else (some (0, 0, t166)))) = some (r1, r2, r3) := h
 clear h
 replace H := Option.bind_eq_some_iff.mp H
 obtain ⟨t166, A50, H⟩ := H
 replace H : (if t166 = 0 then (if a2 < 0 then (policy_Start.j0 k a2 a3 true a0_0 a0_1 a0_2) else (policy_Start.j0 k a2 a3 (decide (a2 ≥ a1)) a0_0 a0_1 a0_2)) else (some (0, 0, t166))) = some (r1, r2, r3) := H
 have A5 := ak A50
 clear A50
 by_cases c6 : t166 = 0
 ·rw [if_pos c6] at H
  have c6b0 : (t166 == 0) = true := beq_iff_eq.mpr c6
  have c6b1 : (t166 != 0) = false := bne_eq_false_iff_eq.mpr c6
  clear c6
  have HC7 := ak H
  clear H
  go_enter Tryz.func110, Tryz.ntmps110
  go_upto_region 4 with (first | ((with_reducible refine gate_dst (N := 4) rfl ?_); refine box_event ?hg (N := 4) ?hd (cs := #[.int .i64 a0_0, .int .u8 a0_1, .int .i64 a0_2]) (t := 40) ?hr ?_; (case hd => rfl); (case hg => rfl); (case hr => first | (go_simp; done) | (go_simp; rfl)); intro gb165 hg w8 hbox hb; have n0_ := ak (below_step (by repeat (first | (with_reducible first | exact HB.1 | apply below_alloc | apply pw_below_drewN | apply below_drew1) | exact HB.1)) hb); have n1_ := ak (hbox); have n2_ := ak ((by rw [hg]; exact (below_size (by repeat (first | (with_reducible first | exact HB.1 | apply below_alloc | apply pw_below_drewN | apply below_drew1) | exact HB.1))) : w.heap.size ≤ gb165)); have n3_ := ak ((by rw [hg]; exact (below_size (by repeat (first | (with_reducible first | exact HB.1 | apply below_alloc | apply pw_below_drewN | apply below_drew1) | exact HB.1))) : w.heap.size ≤ gb165)); clear HB; have HB := n0_; have BK165 := n1_; have GW165 := n2_; have GE165 := n3_; clear n0_ n1_ n2_ n3_; clear hb hbox hg; have hcz9_0 : w8.cell? ⟨gb165, 0, none⟩ = some (.int .i64 a0_0) := (blk_cell BK165.out 0).trans rfl; have hcz9_1 : w8.cell? ⟨gb165, 1, none⟩ = some (.int .u8 a0_1) := (blk_cell BK165.out 1).trans rfl; have hcz9_2 : w8.cell? ⟨gb165, 2, none⟩ = some (.int .i64 a0_2) := (blk_cell BK165.out 2).trans rfl; have hfz9_0 := blk_frozen BK165.out 0; have hfz9_1 := blk_frozen BK165.out 1; have hfz9_2 := blk_frozen BK165.out 2) | ((with_reducible refine gate_callee (f := 99) rfl ?_); refine goesL_ (some 16) rfl rfl Tryz.func99 (by kernel_rfl) rfl #[.agg #[.int .i64 a0_0, .int .u8 a0_1, .int .i64 a0_2], .int .i64 a1] rfl (by (try simp only [List.map_toArray, List.map_cons, List.map_nil]); first | done | rfl | (simp only [List.length_drop, List.length_take]; rfl)) ?_; (with_reducible refine (policy_Check.calls k a0_0 a0_1 a0_2 a1 t166 _ A5.out).mono ?_); rintro e w10 ⟨rfl, hb⟩; refine ⟨_, rfl, ?_⟩; have n0_ := ak (blk_below (g := gb165) (o := .cells #[.int .i64 a0_0, .int .u8 a0_1, .int .i64 a0_2] 40 (0, 0)) (by (with_reducible repeat (first | refine blk_drewN ?_ _ | refine blk_drew ?_ | refine blk_alloc ?_ _)); exact BK165.out) hb); have n1_ := ak (below_step (by repeat (first | (with_reducible first | exact HB.1 | apply below_alloc | apply pw_below_drewN | apply below_drew1 | refine below_set ?_ GE165.out) | exact HB.1)) hb); clear BK165; clear HB; have BK165 := n0_; have HB := n1_; clear n0_ n1_; (try clear hb); (try clear hb2); (try clear hk); (try clear hi)))
  (try simp only [Act.put, List.setIfInBounds_toArray, List.set_cons_zero, List.set_cons_succ])
  go_cut [26] (fun v26 wc => ∃ (kq : Nat) (x26_6 : Bool), v26 = .bool x26_6 ∧ Aside0 (policy_Start.j0 kq a2 a3 x26_6 a0_0 a0_1 a0_2 = some (r1, r2, r3)) ∧ Aside0 (kq ≤ k) ∧ Aside0 (wc.heap[gb165]? = some (.cells #[.int .i64 a0_0, .int .u8 a0_1, .int .i64 a0_2] 40 (0, 0))) ∧ Aside0 (Below w.heap.size w wc))
  case first =>
   have H := HC7.1
   clear HC7
   by_cases c11 : a2 < 0
   ·rw [if_pos c11] at H
    have c11b0 : decide (a2 < 0) = true := decide_eq_true c11
    clear c11
    (first | rw [c11b0] | (simp only [i64_w, i32_w]; rw [c11b0]) | skip)
    have H' := ak H
    clear H
    go_wp2
    go_meet
    case rel => exact ⟨_, (true), (by first | rfl | (simp; done) | (simp [*]; done)), H', ⟨by first | omega | exact Nat.le_refl _⟩, ⟨by (with_reducible repeat (first | refine blk_drewN ?_ _ | refine blk_drew ?_ | refine blk_alloc ?_ _)); exact BK165.out⟩, ⟨by repeat (first | (with_reducible first | exact HB.1 | apply below_alloc | apply pw_below_drewN | apply below_drew1 | refine below_set ?_ GE165.out) | exact HB.1)⟩⟩
   ·rw [if_neg c11] at H
    have c11b0 : decide (a2 < 0) = false := decide_eq_false c11
    clear c11
    (first | rw [c11b0] | (simp only [i64_w, i32_w]; rw [c11b0]) | skip)
    have H' := ak H
    clear H
    go_wp2
    go_meet
    case rel => exact ⟨_, (decide (a2 ≥ a1)), (by first | rfl | (simp; done) | (simp [*]; done)), H', ⟨by first | omega | exact Nat.le_refl _⟩, ⟨by (with_reducible repeat (first | refine blk_drewN ?_ _ | refine blk_drew ?_ | refine blk_alloc ?_ _)); exact BK165.out⟩, ⟨by repeat (first | (with_reducible first | exact HB.1 | apply below_alloc | apply pw_below_drewN | apply below_drew1 | refine below_set ?_ GE165.out) | exact HB.1)⟩⟩
  case rest =>
   clear HC7
   try clear c1
   try clear p2
   try clear c6
   try clear c6b0
   try clear c6b1
   try clear c9
   try clear c11
   try clear c11b0
   try clear hcz9_0
   try clear hcz9_1
   try clear hcz9_2
   try clear hfz9_0
   try clear hfz9_1
   try clear hfz9_2
   obtain ⟨kq, x26_6, rfl, HA, HJ6, BK165, HB⟩ := hcut
   cases kq with
   | zero => exact absurd HA.1 (by simp [policy_Start.j0])
   | succ kj6 =>
    have H := HA.1
    clear HA
    simp only [policy_Start.j0] at H
    by_cases c12 : x26_6 = true
    ·subst c12
     have H1 : (some (0, 0, 10)) = some (r1, r2, r3) := by rw [if_pos rfl] at H; exact H
     clear H
     have H := H1
     clear H1
     simp only [Option.some.injEq, Prod.mk.injEq] at H
     obtain ⟨rfl, rfl, rfl⟩ := H
     go_wp2
     go_ret3
     exact ⟨by first | rfl | (simp [errW_none, errW_some] <;> rfl) | (simp [*, errW_none, errW_some] <;> rfl), by repeat (first | (with_reducible first | exact HB.1 | apply below_alloc | apply pw_below_drewN | apply below_drew1 | refine below_set ?_ GE165.out) | exact HB.1)⟩
    ·replace c12 := Bool.eq_false_iff.mpr c12
     subst c12
     have H1 : (if a0_0 = 2 then ((nodeset_Next.f kj6 a0_1 a3).bind fun bt167 => (some (bt167.1, bt167.1, 0))) else (if a0_0 = 3 then (some (a0_2, a3, 0)) else (some (a2, a3, 0)))) = some (r1, r2, r3) := by rw [if_neg (show ¬ (false = true) by decide)] at H; exact H
     clear H
     have H := H1
     clear H1
     by_cases c13 : a0_0 = 2
     ·rw [if_pos c13] at H
      have c13b0 : (a0_0 == 2) = true := beq_iff_eq.mpr c13
      have c13b1 : (a0_0 != 2) = false := bne_eq_false_iff_eq.mpr c13
      clear c13
      replace H := Option.bind_eq_some_iff.mp H
      obtain ⟨⟨t167, t168⟩, A140, H⟩ := H
      replace H : (some (t167, t167, 0)) = some (r1, r2, r3) := H
      have A14 := ak A140
      clear A140
      simp only [Option.some.injEq, Prod.mk.injEq] at H
      obtain ⟨rfl, rfl, rfl⟩ := H
      have hcz15_0 : wc.cell? ⟨gb165, 0, none⟩ = some (.int .i64 a0_0) := (blk_cell BK165.out 0).trans rfl
      have hcz15_1 : wc.cell? ⟨gb165, 1, none⟩ = some (.int .u8 a0_1) := (blk_cell BK165.out 1).trans rfl
      have hcz15_2 : wc.cell? ⟨gb165, 2, none⟩ = some (.int .i64 a0_2) := (blk_cell BK165.out 2).trans rfl
      have hfz15_0 := blk_frozen BK165.out 0
      have hfz15_1 := blk_frozen BK165.out 1
      have hfz15_2 := blk_frozen BK165.out 2
      go_wp2_with (first | ((with_reducible refine gate_callee (f := 161) rfl ?_); refine goesL_ (some 35) rfl rfl Tryz.func161 (by kernel_rfl) rfl #[.int .u8 a0_1, .int .i64 a3] rfl (by (try simp only [List.map_toArray, List.map_cons, List.map_nil]); first | done | rfl | (simp only [List.length_drop, List.length_take]; rfl)) ?_; (with_reducible refine (nodeset_Next.calls kj6 a0_1 a3 t167 t168 _ A14.out).mono ?_); rintro e w16 ⟨rfl, hb⟩; refine ⟨_, rfl, ?_⟩; have n0_ := ak (blk_below (g := gb165) (o := .cells #[.int .i64 a0_0, .int .u8 a0_1, .int .i64 a0_2] 40 (0, 0)) (by (with_reducible repeat (first | refine blk_drewN ?_ _ | refine blk_drew ?_ | refine blk_alloc ?_ _)); exact BK165.out) hb); have n1_ := ak (below_step (by repeat (first | (with_reducible first | exact HB.1 | apply below_alloc | apply pw_below_drewN | apply below_drew1 | refine below_set ?_ GE165.out) | exact HB.1)) hb); clear BK165; clear HB; have BK165 := n0_; have HB := n1_; clear n0_ n1_; (try clear hb); (try clear hb2); (try clear hk); (try clear hi)))
      go_ret3
      exact ⟨by first | rfl | (simp [errW_none, errW_some] <;> rfl) | (simp [*, errW_none, errW_some] <;> rfl), by repeat (first | (with_reducible first | exact HB.1 | apply below_alloc | apply pw_below_drewN | apply below_drew1 | refine below_set ?_ GE165.out) | exact HB.1)⟩
     ·rw [if_neg c13] at H
      have c13b0 : (a0_0 == 2) = false := beq_eq_false_iff_ne.mpr c13
      have c13b1 : (a0_0 != 2) = true := bne_iff_ne.mpr c13
      by_cases c17 : a0_0 = 3
      ·rw [if_pos c17] at H
       have c17b0 : (a0_0 == 3) = true := beq_iff_eq.mpr c17
       have c17b1 : (a0_0 != 3) = false := bne_eq_false_iff_eq.mpr c17
       clear c17
       simp only [Option.some.injEq, Prod.mk.injEq] at H
       obtain ⟨rfl, rfl, rfl⟩ := H
       have hcz18_0 : wc.cell? ⟨gb165, 0, none⟩ = some (.int .i64 a0_0) := (blk_cell BK165.out 0).trans rfl
       have hcz18_1 : wc.cell? ⟨gb165, 1, none⟩ = some (.int .u8 a0_1) := (blk_cell BK165.out 1).trans rfl
       have hcz18_2 : wc.cell? ⟨gb165, 2, none⟩ = some (.int .i64 a0_2) := (blk_cell BK165.out 2).trans rfl
       have hfz18_0 := blk_frozen BK165.out 0
       have hfz18_1 := blk_frozen BK165.out 1
       have hfz18_2 := blk_frozen BK165.out 2
       go_wp2
       go_ret3
       exact ⟨by first | rfl | (simp [errW_none, errW_some] <;> rfl) | (simp [*, errW_none, errW_some] <;> rfl), by repeat (first | (with_reducible first | exact HB.1 | apply below_alloc | apply pw_below_drewN | apply below_drew1 | refine below_set ?_ GE165.out) | exact HB.1)⟩
      ·rw [if_neg c17] at H
       have c17b0 : (a0_0 == 3) = false := beq_eq_false_iff_ne.mpr c17
       have c17b1 : (a0_0 != 3) = true := bne_iff_ne.mpr c17
       simp only [Option.some.injEq, Prod.mk.injEq] at H
       obtain ⟨rfl, rfl, rfl⟩ := H
       have hcz19_0 : wc.cell? ⟨gb165, 0, none⟩ = some (.int .i64 a0_0) := (blk_cell BK165.out 0).trans rfl
       have hcz19_1 : wc.cell? ⟨gb165, 1, none⟩ = some (.int .u8 a0_1) := (blk_cell BK165.out 1).trans rfl
       have hcz19_2 : wc.cell? ⟨gb165, 2, none⟩ = some (.int .i64 a0_2) := (blk_cell BK165.out 2).trans rfl
       have hfz19_0 := blk_frozen BK165.out 0
       have hfz19_1 := blk_frozen BK165.out 1
       have hfz19_2 := blk_frozen BK165.out 2
       go_wp2
       go_ret3
       exact ⟨by first | rfl | (simp [errW_none, errW_some] <;> rfl) | (simp [*, errW_none, errW_some] <;> rfl), by repeat (first | (with_reducible first | exact HB.1 | apply below_alloc | apply pw_below_drewN | apply below_drew1 | refine below_set ?_ GE165.out) | exact HB.1)⟩
 ·rw [if_neg c6] at H
  have c6b0 : (t166 == 0) = false := beq_eq_false_iff_ne.mpr c6
  have c6b1 : (t166 != 0) = true := bne_iff_ne.mpr c6
  simp only [Option.some.injEq, Prod.mk.injEq] at H
  obtain ⟨rfl, rfl, rfl⟩ := H
  go_enter Tryz.func110, Tryz.ntmps110
  go_wp2_with (first | ((with_reducible refine gate_dst (N := 4) rfl ?_); refine box_event ?hg (N := 4) ?hd (cs := #[.int .i64 a0_0, .int .u8 a0_1, .int .i64 a0_2]) (t := 40) ?hr ?_; (case hd => rfl); (case hg => rfl); (case hr => first | (go_simp; done) | (go_simp; rfl)); intro gb165 hg w20 hbox hb; have n0_ := ak (below_step (by repeat (first | (with_reducible first | exact HB.1 | apply below_alloc | apply pw_below_drewN | apply below_drew1) | exact HB.1)) hb); have n1_ := ak (hbox); have n2_ := ak ((by rw [hg]; exact (below_size (by repeat (first | (with_reducible first | exact HB.1 | apply below_alloc | apply pw_below_drewN | apply below_drew1) | exact HB.1))) : w.heap.size ≤ gb165)); have n3_ := ak ((by rw [hg]; exact (below_size (by repeat (first | (with_reducible first | exact HB.1 | apply below_alloc | apply pw_below_drewN | apply below_drew1) | exact HB.1))) : w.heap.size ≤ gb165)); clear HB; have HB := n0_; have BK165 := n1_; have GW165 := n2_; have GE165 := n3_; clear n0_ n1_ n2_ n3_; clear hb hbox hg; have hcz21_0 : w20.cell? ⟨gb165, 0, none⟩ = some (.int .i64 a0_0) := (blk_cell BK165.out 0).trans rfl; have hcz21_1 : w20.cell? ⟨gb165, 1, none⟩ = some (.int .u8 a0_1) := (blk_cell BK165.out 1).trans rfl; have hcz21_2 : w20.cell? ⟨gb165, 2, none⟩ = some (.int .i64 a0_2) := (blk_cell BK165.out 2).trans rfl; have hfz21_0 := blk_frozen BK165.out 0; have hfz21_1 := blk_frozen BK165.out 1; have hfz21_2 := blk_frozen BK165.out 2) | ((with_reducible refine gate_callee (f := 99) rfl ?_); refine goesL_ (some 16) rfl rfl Tryz.func99 (by kernel_rfl) rfl #[.agg #[.int .i64 a0_0, .int .u8 a0_1, .int .i64 a0_2], .int .i64 a1] rfl (by (try simp only [List.map_toArray, List.map_cons, List.map_nil]); first | done | rfl | (simp only [List.length_drop, List.length_take]; rfl)) ?_; (with_reducible refine (policy_Check.calls k a0_0 a0_1 a0_2 a1 t166 _ A5.out).mono ?_); rintro e w22 ⟨rfl, hb⟩; refine ⟨_, rfl, ?_⟩; have n0_ := ak (blk_below (g := gb165) (o := .cells #[.int .i64 a0_0, .int .u8 a0_1, .int .i64 a0_2] 40 (0, 0)) (by (with_reducible repeat (first | refine blk_drewN ?_ _ | refine blk_drew ?_ | refine blk_alloc ?_ _)); exact BK165.out) hb); have n1_ := ak (below_step (by repeat (first | (with_reducible first | exact HB.1 | apply below_alloc | apply pw_below_drewN | apply below_drew1 | refine below_set ?_ GE165.out) | exact HB.1)) hb); clear BK165; clear HB; have BK165 := n0_; have HB := n1_; clear n0_ n1_; (try clear hb); (try clear hb2); (try clear hk); (try clear hi)))
  go_ret3
  exact ⟨by first | rfl | (simp [errW_none, errW_some] <;> rfl) | (simp [*, errW_none, errW_some] <;> rfl), by repeat (first | (with_reducible first | exact HB.1 | apply below_alloc | apply pw_below_drewN | apply below_drew1 | refine below_set ?_ GE165.out) | exact HB.1)⟩
end Go.Proofs.YtenkdmloolbdaaaGreatDoor.PH
end
section
namespace Go.Proofs.YtenkdmloolbdaaaGreatDoor.TZ
open Go.RowKit Go.Proofs.YtenkdmloolbdaaaGreatDoorW.PrintWords Go.Proofs.YtenkdmloolbdaaaGreatDoorW.PrintLast Go.Proofs.YtenkdmloolbdaaaGreatDoorW.PrintMore Go.Proofs.YtenkdmloolbdaaaGreatDoor.PH
def pows : List Int := [1, 2, 4, 8, 16, 32, 64, 128, 256, 512, 1024]
def countsB (n f : Int) (cpus : List Int) : Bool := pows.contains f && decide (1 ≤ n) && decide (n ≤ 8) && decide (1 ≤ cpus.length) && decide (cpus.length ≤ 16)
def cpB (n : Int) (cpus : List Int) : Bool := cpus.all fun c => decide (0 ≤ c) && decide (c < n)
def dd (dist : List (List Int)) (a b : Nat) : Int := (dist.getD a []).getD b 0
def okAt (dist : List (List Int)) (a b : Nat) : Bool := decide (dd dist a b = dd dist b a) && (if a = b then decide (dd dist a b = 10) else decide (11 ≤ dd dist a b) && decide (dd dist a b ≤ 255))
def lensB (n : Nat) (dist : List (List Int)) : Bool := decide (dist.length = n) && (List.range n).all fun a => decide ((dist.getD a []).length = n)
def mtB (n : Nat) (dist : List (List Int)) : Bool := lensB n dist && (List.range n).all fun a => (List.range n).all fun b => okAt dist a b
def chk (n f : Int) (cpus : List Int) (dist : List (List Int)) : Int :=
 if countsB n f cpus = true then (if cpB n cpus = true then (if mtB n.toNat dist = true then 0 else 4) else 10) else 3
theorem wrap_s (x : Int) (h0 : -1000000 ≤ x) (h1 : x ≤ 1000000) : wrap64 x = x := IntWalk.wrap64_in _ ⟨by omega, by omega⟩
theorem rd_dd (dist : List (List Int)) (a b : Nat) : rd (rd_L1 dist (a : Int)) (b : Int) = dd dist a b := by
 unfold rd rd_L1 dd
 rw [Int.toNat_natCast, Int.toNat_natCast]
theorem rdl (dist : List (List Int)) (a : Nat) : rd_L1 dist (a : Int) = dist.getD a [] := by
 unfold rd_L1
 rw [Int.toNat_natCast]
theorem pow_all : (List.range 1025).all (fun f => f == 0 || (decide (Go.bits .and .i64 (f : Int) (wrap64 ((f : Int) - 1)) = 0) == pows.contains (f : Int))) = true := by decide +kernel
theorem pow_and (f : Int) (h1 : 1 ≤ f) (h2 : f ≤ 1024) : decide (Go.bits .and .i64 f (wrap64 (f - 1)) = 0) = pows.contains f := by
 obtain ⟨m, rfl⟩ := Int.eq_ofNat_of_zero_le (show 0 ≤ f by omega)
 have := List.all_eq_true.1 pow_all m (List.mem_range.2 (by omega))
 have h0 : (m == 0) = false := by simp; omega
 rw [h0, Bool.false_or] at this
 exact beq_iff_eq.1 this
theorem pows_in (f : Int) (h : ¬ (1 ≤ f ∧ f ≤ 1024)) : pows.contains f = false := by
 have : ∀ x ∈ pows, 1 ≤ x ∧ x ≤ 1024 := by decide
 rw [List.contains_eq_mem]
 exact decide_eq_false (fun hm => h (this f hm))
theorem counts_f (n f : Int) (cpus : List Int) (dist : List (List Int)) : topo_counts.f n f cpus dist = some (countsB n f cpus) := by
 unfold topo_counts.f countsB
 by_cases h1 : f ≥ 1
 ·rw [if_pos h1]
  by_cases h2 : f ≤ 1024
  ·rw [if_pos h2, ← pow_and f h1 h2]
   by_cases h3 : Go.bits .and .i64 f (wrap64 (f - 1)) = 0
   ·rw [if_pos h3, decide_eq_true h3, Bool.true_and]
    by_cases h4 : n ≥ 1
    ·rw [if_pos h4, decide_eq_true (by omega : 1 ≤ n), Bool.true_and]
     by_cases h5 : n ≤ 8
     ·rw [if_pos h5, decide_eq_true h5, Bool.true_and]
      by_cases h6 : (cpus.length : Int) ≥ 1
      ·rw [if_pos h6, decide_eq_true (by omega : 1 ≤ cpus.length), Bool.true_and]
       congr 1
       by_cases h7 : cpus.length ≤ 16
       ·rw [decide_eq_true h7, decide_eq_true (by omega)]
       ·rw [decide_eq_false h7, decide_eq_false (by omega)]
      ·rw [if_neg h6, decide_eq_false (by omega : ¬ 1 ≤ cpus.length), Bool.false_and]
     ·rw [if_neg h5, decide_eq_false h5, Bool.false_and, Bool.false_and]
    ·rw [if_neg h4, decide_eq_false (by omega : ¬ 1 ≤ n), Bool.false_and, Bool.false_and, Bool.false_and]
   ·rw [if_neg h3, decide_eq_false h3, Bool.false_and, Bool.false_and, Bool.false_and, Bool.false_and]
  ·rw [if_neg h2, pows_in f (by omega)]; rfl
 ·rw [if_neg h1, pows_in f (by omega)]; rfl
def iv (xs : List Int) : Array Value := (xs.map (Value.int .i64)).toArray
theorem made_iv (m : Nat) : madeCells #[.int .i64 0] m = iv (List.replicate m 0) := by
 unfold madeCells iv
 rw [List.map_replicate]
 apply Array.ext
 ·simp
 ·intro i h1 h2
  simp [Nat.mod_one]
structure Gr (w : World) (base g h : Nat) (n m : Nat) (xs : List Int) : Prop where
 lo : base ≤ g
 loh : base ≤ h
 ne : g ≠ h
 cell : w.heap[g]? = some (.cells #[.int .i64 n, .int .i64 m, .slice (some ⟨h, 0, none⟩) xs.length xs.length] 300 (0, 0))
 row : w.heap[h]? = some (.cells (iv xs) 3 (0, 0))
 len : xs.length = n * m
section
variable {w w' : World} {base g h n m : Nat} {xs : List Int}
theorem Gr.c0 (H : Gr w base g h n m xs) : w.cell? ⟨g, 0, none⟩ = some (.int .i64 n) := by simp only [World.cell?, H.cell]; rfl
theorem Gr.c1 (H : Gr w base g h n m xs) : w.cell? ⟨g, 1, none⟩ = some (.int .i64 m) := by simp only [World.cell?, H.cell]; rfl
theorem Gr.c2 (H : Gr w base g h n m xs) : w.cell? ⟨g, 2, none⟩ = some (.slice (some ⟨h, 0, none⟩) xs.length xs.length) := by simp only [World.cell?, H.cell]; rfl
theorem Gr.at_ (H : Gr w base g h n m xs) (i : Nat) (x : Int) (hx : xs[i]? = some x) : w.cell? ⟨h, i, none⟩ = some (.int .i64 x) := by
 simp only [World.cell?, H.row]
 show (iv xs)[i]? = _
 unfold iv
 rw [List.getElem?_toArray, List.getElem?_map, hx]; rfl
theorem Gr.fz (H : Gr w base g h n m xs) (i : Nat) : w.frozen? ⟨h, i, none⟩ = false := by simp [World.frozen?, H.row]
theorem Gr.below (H : Gr w base g h n m xs) (hb : Below w.heap.size w w') : Gr w' base g h n m xs :=
 ⟨H.lo, H.loh, H.ne, (hb.block g (Array.getElem?_eq_some_iff.1 H.cell).1).trans H.cell, (hb.block h (Array.getElem?_eq_some_iff.1 H.row).1).trans H.row, H.len⟩
theorem Gr.put (H : Gr w base g h n m xs) (i : Nat) (x : Int) : Gr (w.setCell ⟨h, i, none⟩ (.int .i64 x)) base g h n m (xs.set i x) := by
 refine ⟨H.lo, H.loh, H.ne, ?_, ?_, by rw [List.length_set]; exact H.len⟩
 ·rw [Below.heap_setCell w ⟨h, i, none⟩ _ g H.ne, List.length_set]; exact H.cell
 ·have hlt := (Array.getElem?_eq_some_iff.1 H.row).1
  have hg := (Array.getElem?_eq_some_iff.1 H.row).2
  unfold World.setCell
  rw [Array.getElem?_modify]
  simp only [if_true, H.row, Option.map_some]
  unfold iv
  congr 2
  rw [List.map_set]
  simp
theorem Gr.putBelow (H : Gr w base g h n m xs) (i : Nat) (v : Value) : Below base w (w.setCell ⟨h, i, none⟩ v) := (Below.refl base w).setCell (p := ⟨h, i, none⟩) H.loh _
end
def NewP (w : World) (n : Nat) (xs : List Int) (e : Ending) (w' : World) : Prop := ∃ g h, e = .returned (.tuple #[.pointer (some ⟨g, 0, none⟩), .int .i64 0]) ∧ Gr w' w.heap.size g h n n xs ∧ Below w.heap.size w w'
theorem new_g (n : Nat) (h1 : 1 ≤ n) (h8 : n ≤ 8) (w : World) :
 Calls Tryz.prog 213 #[.int .i64 n, .int .i64 n] w (NewP w n (List.replicate (n * n) 0)) := by
 obtain ⟨p, hp⟩ : ∃ p, n * n = p := ⟨_, rfl⟩
 have hp64 : p ≤ 64 := by rw [← hp]; exact Nat.mul_le_mul h8 h8
 have hpI : (n : Int) * (n : Int) = (p : Int) := by rw [← hp, Int.natCast_mul]
 have hmk := print_make (P := Tryz.prog) 34 3 .i64 8 Tryz.underlying34 (by kernel_rfl) (by decide) p (by omega)
 have d1 : decide ((n : Int) < 0) = false := decide_eq_false (by omega)
 have d2 : decide (64 < (n : Int)) = false := decide_eq_false (by omega)
 have d3 : ¬ (64 < (n : Int)) := by omega
 have HP := ak hp
 clear hp
 go_enter Tryz.func213, Tryz.ntmps213
 go_wp2_with fail
 go_ret2
 have hb : Below w.heap.size w (w.alloc (.cells (madeCells #[.int .i64 0] p) 3)) := below_alloc (Below.refl _ _) _
 refine ⟨w.heap.size + 1, w.heap.size, rfl, ⟨by omega, Nat.le_refl _, by omega, ?_, ?_, by rw [List.length_replicate]⟩, below_alloc hb _⟩
 ·have := heap_alloc_new (w.alloc (.cells (madeCells #[.int .i64 0] p) 3)) (.cells #[.int .i64 n, .int .i64 n, .slice (some ⟨w.heap.size, 0, none⟩) p p] 300)
  rw [World.size_alloc] at this
  rw [List.length_replicate, HP.1]; exact this
 ·rw [heap_alloc_old _ _ (by simp), heap_alloc_new, HP.1, made_iv]
theorem at_g (base g h n m r c p : Nat) (xs : List Int) (w : World) (H : Gr w base g h n m xs) (hr : r < n) (hc : c < m) (hn : n ≤ 8) (hm : m ≤ 8) (hp : r * m + c = p) :
 Calls Tryz.prog 229 #[.pointer (some ⟨g, 0, none⟩), .int .i64 r, .int .i64 c] w fun e w' => e = .returned (.tuple #[.int .i64 p, .int .i64 0]) ∧ w' = w := by
 have c0 := H.c0
 have c1 := H.c1
 obtain ⟨q, hq⟩ : ∃ q, r * m = q := ⟨_, rfl⟩
 have hq64 : q ≤ 64 := by rw [← hq]; exact Nat.mul_le_mul (by omega : r ≤ 8) hm
 have hqI : (r : Int) * (m : Int) = (q : Int) := by rw [← hq, Int.natCast_mul]
 have hpI : (q : Int) + (c : Int) = (p : Int) := by omega
 have hp' : p ≤ 100 := by omega
 have d1 : decide ((r : Int) < 0) = false := decide_eq_false (by omega)
 have d2 : decide (n ≤ r) = false := decide_eq_false (by omega)
 have d2' : ¬ n ≤ r := by omega
 have d3 : decide ((c : Int) < 0) = false := decide_eq_false (by omega)
 have d4 : decide (m ≤ c) = false := decide_eq_false (by omega)
 have d4' : ¬ m ≤ c := by omega
 clear H hp hq
 go_enter Tryz.func229, Tryz.ntmps229
 go_wp2_with fail
 go_ret2
 exact ⟨rfl, rfl⟩
theorem put_g (base g h n m r c p : Nat) (x : Int) (xs : List Int) (w : World) (H : Gr w base g h n m xs) (hr : r < n) (hc : c < m) (hn : n ≤ 8) (hm : m ≤ 8) (hp : r * m + c = p) :
 Calls Tryz.prog 214 #[.pointer (some ⟨g, 0, none⟩), .int .i64 r, .int .i64 c, .int .i64 x] w fun e w' => e = .returned (.int .i64 0) ∧ w' = w.setCell ⟨h, p, none⟩ (.int .i64 x) := by
 have HA := ak (at_g base g h n m r c p xs w H hr hc hn hm hp)
 have c2 := H.c2
 have hpl : p < xs.length := by
  rw [H.len, ← hp]
  have : r * m + m ≤ n * m := by rw [← Nat.succ_mul]; exact Nat.mul_le_mul_right m hr
  omega
 obtain ⟨y, hy⟩ : ∃ y, xs[p]? = some y := ⟨_, List.getElem?_eq_getElem hpl⟩
 have hcell := H.at_ p y hy
 have hf := H.fz p
 have hl64 : xs.length ≤ 64 := by rw [H.len]; exact Nat.mul_le_mul hn hm
 have hp0 : (0 : Int) ≤ (p : Int) := by omega
 have hpI : (p : Int) < (xs.length : Int) := by omega
 clear H hy hp
 go_enter Tryz.func214, Tryz.ntmps214
 go_wp2_with (go_at_call 229; (with_reducible refine HA.1.mono ?_); rintro e_ w2 ⟨rfl, hw⟩; rw [hw]; clear hw w2)
 go_ret
 exact ⟨rfl, rfl⟩
def Box (w : World) (b : Nat) (n f : Int) (A : Option Addr) (la ca : Nat) (B : Option Addr) (lb cb : Nat) : Prop :=
 w.heap[b]? = some (.cells #[.int .i64 n, .int .i64 f, .slice A la ca, .slice B lb cb] 37 (0, 0))
section
variable {w w' : World} {b : Nat} {n f : Int} {A B : Option Addr} {la ca lb cb : Nat}
theorem Box.c0 (h : Box w b n f A la ca B lb cb) : w.cell? ⟨b, 0, none⟩ = some (.int .i64 n) := by simp only [World.cell?]; rw [show w.heap[b]? = _ from h]; rfl
theorem Box.c1 (h : Box w b n f A la ca B lb cb) : w.cell? ⟨b, 1, none⟩ = some (.int .i64 f) := by simp only [World.cell?]; rw [show w.heap[b]? = _ from h]; rfl
theorem Box.c2 (h : Box w b n f A la ca B lb cb) : w.cell? ⟨b, 2, none⟩ = some (.slice A la ca) := by simp only [World.cell?]; rw [show w.heap[b]? = _ from h]; rfl
theorem Box.c3 (h : Box w b n f A la ca B lb cb) : w.cell? ⟨b, 3, none⟩ = some (.slice B lb cb) := by simp only [World.cell?]; rw [show w.heap[b]? = _ from h]; rfl
theorem Box.below (h : Box w b n f A la ca B lb cb) (hb : Below w.heap.size w w') : Box w' b n f A la ca B lb cb := (hb.block b (Array.getElem?_eq_some_iff.1 (show w.heap[b]? = _ from h)).1).trans h
theorem Box.belowAt {B0 : Nat} (h : Box w b n f A la ca B lb cb) (hb : Below B0 w w') (hlt : b < B0) : Box w' b n f A la ca B lb cb := (hb.block b hlt).trans h
theorem Box.new (w : World) (n f : Int) (A : Option Addr) (la ca : Nat) (B : Option Addr) (lb cb : Nat) : Box (w.alloc (.cells #[.int .i64 n, .int .i64 f, .slice A la ca, .slice B lb cb] 37)) w.heap.size n f A la ca B lb cb := heap_alloc_new _ _
end
def pt (n : Nat) (dist : List (List Int)) (p : Nat) : List Int := (List.range (n * n)).map fun q => if q < p then dd dist (q / n) (q % n) else 0
theorem pt_zero (n : Nat) (dist : List (List Int)) : pt n dist 0 = List.replicate (n * n) 0 := by
 unfold pt
 apply List.ext_getElem
 ·simp
 ·intro i h1 h2; simp
theorem pt_len (n : Nat) (dist : List (List Int)) (p : Nat) : (pt n dist p).length = n * n := by unfold pt; simp
theorem pt_set (n : Nat) (dist : List (List Int)) (i j : Nat) (hi : i < n) (hj : j < n) : (pt n dist (i * n + j)).set (i * n + j) (dd dist i j) = pt n dist (i * n + j + 1) := by
 have hd : (i * n + j) / n = i := by rw [Nat.mul_comm, Nat.mul_add_div (by omega), Nat.div_eq_of_lt hj]; rfl
 have hm : (i * n + j) % n = j := by rw [Nat.mul_comm, Nat.mul_add_mod, Nat.mod_eq_of_lt hj]
 unfold pt
 apply List.ext_getElem
 ·simp
 ·intro q h1 h2
  simp only [List.length_set, List.length_map, List.length_range] at h1
  rw [List.getElem_set]
  simp only [List.getElem_map, List.getElem_range]
  by_cases hq : i * n + j = q
  ·rw [if_pos hq, ← hq, hd, hm, if_pos (by omega)]
  ·rw [if_neg hq]
   by_cases h : q < i * n + j
   ·rw [if_pos h, if_pos (by omega)]
   ·rw [if_neg h, if_neg (by omega)]
def TabP (w : World) (n : Nat) (dist : List (List Int)) (e : Ending) (w' : World) : Prop :=
 Below w.heap.size w w' ∧ (lensB n dist = false → e = .returned (.pointer none)) ∧ (lensB n dist = true → ∃ g h, e = .returned (.pointer (some ⟨g, 0, none⟩)) ∧ Gr w' w.heap.size g h n n (pt n dist (n * n)))
def RelT (w : World) (n : Nat) (f : Int) (A : Option Addr) (la ca : Nat) (B : Option Addr) (lb cb : Nat) (dist : List (List Int)) (g h : Nat) (v30 : Value) (wr : World) : Prop :=
 ∃ i : Nat, v30 = .int .i64 i ∧ i ≤ n ∧ (∀ a, a < i → (dist.getD a []).length = n) ∧ Gr wr (w.heap.size + 1) g h n n (pt n dist (i * n)) ∧ Box wr w.heap.size n f A la ca B lb cb ∧ Below w.heap.size w wr
def RelTI (w : World) (n : Nat) (f : Int) (A : Option Addr) (la ca : Nat) (B : Option Addr) (lb cb : Nat) (dist : List (List Int)) (g h i : Nat) (v42 : Value) (wr : World) : Prop :=
 ∃ j : Nat, v42 = .int .i64 j ∧ j ≤ n ∧ Gr wr (w.heap.size + 1) g h n n (pt n dist (i * n + j)) ∧ Box wr w.heap.size n f A la ca B lb cb ∧ Below w.heap.size w wr
theorem below_less {B B' : Nat} {w w' : World} (h : Below B w w') (hle : B' ≤ B) : Below B' w w' := ⟨h.os, h.tape, h.output, h.size, fun k hk => h.block k (Nat.lt_of_lt_of_le hk hle)⟩
theorem Gr.mono {w : World} {base base' g h n m : Nat} {xs : List Int} (H : Gr w base g h n m xs) (hb : base' ≤ base) : Gr w base' g h n m xs := ⟨Nat.le_trans hb H.lo, Nat.le_trans hb H.loh, H.ne, H.cell, H.row, H.len⟩
theorem table_own (n : Nat) (h1 : 1 ≤ n) (h8 : n ≤ 8) (f : Int) (A : Option Addr) (la ca : Nat) (B : Option Addr) (cb : Nat) (dist : List (List Int)) (w : World) (hr3 : Kd.C (Kd.slice 3 (Kd.int .i64)) w B dist.length dist) (hcb : dist.length ≤ cb) :
 Calls Tryz.prog 180 #[.agg #[.int .i64 n, .int .i64 f, .slice A la ca, .slice B dist.length cb]] w (TabP w n dist) := by
 have HR3 := ak hr3
 have hmax : dist.length ≤ 9223372036854775807 := hr3.2.1
 clear hr3
 go_enter Tryz.func180, Tryz.ntmps180
 go_upto_region 2 with (go_at_call 213; (with_reducible refine (new_g n h1 h8 _).mono ?_); rintro e_ w2 ⟨g, h, rfl, hg, hb⟩; have HG := ak hg; have HX := ak ((Box.new w n f A la ca B dist.length cb).below hb); have HB := ak (below_then (below_alloc (Below.refl w.heap.size w) _) (by simp) hb); clear hg hb)
 have c0 := HX.1.c0
 have c3 := HX.1.c3
 by_cases hln : dist.length = n
 ·have HLN := ak hln
  rw [hln] at c3
  have hq2 : ((n : Int) != (n : Int)) = false := by simp
  have H0 := ak (show RelT w n f A la ca B dist.length cb dist g h (.int .i64 0) w2 from ⟨0, rfl, Nat.zero_le _, fun a ha => absurd ha (by omega), by rw [Nat.zero_mul, pt_zero]; have := HG.1; rw [World.size_alloc] at this; exact this, HX.1, HB.1⟩)
  clear hln HX HB HG
  go_wp2_with fail
  clear c0 c3
  go_loopw [30, 5, 6, 7, 8, 40, 41, 42] (fun v30 _ _ _ _ _ _ _ wr => RelT w n f A la ca B dist.length cb dist g h v30 wr) (fun v30 _ _ _ _ _ _ _ _ => n - (intOf v30).toNat)
  case atStart => exact H0.1
  case round =>
   clear H0
   obtain ⟨i, rfl, hi, hrow, hG, hX, hB⟩ := hrel
   have HG := ak hG
   have HX := ak hX
   have HB := ak hB
   have HRW := ak hrow
   clear hG hX hB hrow
   have hi0 : (0 : Int) ≤ (i : Int) := by omega
   by_cases hlt : i < n
   ·have hltb : decide (i < n) = true := decide_eq_true hlt
    have hltI : (i : Int) < (n : Int) := by omega
    have c0 := HX.1.c0
    obtain ⟨ad, A0, cc, rfl, p0, hcc, hrd⟩ := at_L1 HR3.1 (i : Int) hi0 (by rw [HLN.1]; omega)
    rw [Int.toNat_natCast] at p0
    rw [rdl] at p0 hcc hrd
    have p0 := pw_cell_below HB.1 p0
    obtain ⟨row, hrw⟩ : ∃ row, dist.getD i [] = row := ⟨_, rfl⟩
    rw [hrw] at p0 hcc hrd
    have HRWI := ak hrw
    clear hrw
    by_cases hlen : row.length = n
    ·rw [hlen] at p0 hcc hrd
     have HLEN := ak hlen
     have HRD := ak hrd
     clear hlen hrd
     go_wp2_with fail
     have H1 := ak (show RelTI w n f A la ca (some ad) dist.length cb dist g h i (.int .i64 0) wr from ⟨0, rfl, Nat.zero_le _, HG.1, HX.1, HB.1⟩)
     clear HG HX HB c0 p0
     go_loopw [42, 7, 8] (fun v42 _ _ wr => RelTI w n f A la ca (some ad) dist.length cb dist g h i v42 wr) (fun v42 _ _ _ => n - (intOf v42).toNat)
     case atStart => exact H1.1
     case round =>
      clear H1
      obtain ⟨j, rfl, hj, hG, hX, hB⟩ := hrel
      have HG := ak hG
      have HX := ak hX
      have HB := ak hB
      clear hG hX hB
      have hj0 : (0 : Int) ≤ (j : Int) := by omega
      by_cases hjn : j < n
      ·have hjb : decide (j < n) = true := decide_eq_true hjn
       have hjI : (j : Int) < (n : Int) := by omega
       obtain ⟨ad2, rfl, q0⟩ := Kd.at_int HRD.1 (j : Int) hj0 hjI
       have q0 := pw_cell_below HB.1 q0
       rw [Int.toNat_natCast] at q0
       have hrr : rd row (j : Int) = dd dist i j := by rw [← HRWI.1, ← rdl, rd_dd]
       rw [hrr] at q0
       clear hrr
       go_wp2_with (go_at_call 214; (with_reducible refine (put_g (w.heap.size + 1) g h n n i j (i * n + j) (dd dist i j) _ _ HG.1 hlt hjn h8 h8 rfl).mono ?_); rintro e_ w3 ⟨rfl, hw⟩; have HG2 := ak (hw ▸ HG.1.put (i * n + j) (dd dist i j)); have HB2 := ak (HB.1.trans (hw ▸ below_less (HG.1.putBelow (i * n + j) (.int .i64 (dd dist i j))) (Nat.le_succ _))); have HX2 := ak (hw ▸ HX.1.belowAt (HG.1.putBelow (i * n + j) (.int .i64 (dd dist i j))) (Nat.lt_succ_self _)); clear hw)
       go_roundw
       case rel => exact ⟨j + 1, by go_num, by omega, by rw [← Nat.add_assoc, ← pt_set n dist i j hlt hjn]; exact HG2.1, HX2.1, HB2.1⟩
       case measure => simp [intOf]; omega
      ·obtain rfl : j = n := by omega
       have hjb : decide (j < j) = false := decide_eq_false hjn
       go_wp2_with fail
       go_roundw
       case rel => exact ⟨i + 1, by go_num, by omega, fun a ha => by
        rcases Nat.lt_or_ge a i with h' | h'
        ·exact HRW.1 a h'
        ·obtain rfl : a = i := by omega
         rw [HRWI.1]; exact HLEN.1, by rw [Nat.succ_mul]; exact HG.1, HX.1, HB.1⟩
       case measure => simp [intOf]; omega
    ·have hq3 : ((row.length : Int) != (n : Int)) = true := by simp; omega
     have HF := ak (show lensB n dist = false by
      unfold lensB
      rw [Bool.and_eq_false_iff]
      right
      rw [List.all_eq_false]
      exact ⟨i, List.mem_range.2 hlt, by rw [HRWI.1]; simpa using hlen⟩)
     clear hlen hrd
     go_wp2_with fail
     go_ret
     exact ⟨HB.1, fun _ => rfl, fun h => by rw [HF.1] at h; cases h⟩
   ·obtain rfl : i = n := by omega
    have hltb : decide (i < i) = false := decide_eq_false hlt
    have HTT := ak (show lensB i dist = true by
     unfold lensB
     rw [HLN.1, decide_eq_true rfl, Bool.true_and, List.all_eq_true]
     intro a ha
     exact decide_eq_true (HRW.1 a (List.mem_range.1 ha)))
    go_wp2_with fail
    go_ret
    exact ⟨HB.1, (fun h => by rw [HTT.1] at h; cases h), fun _ => ⟨g, h, rfl, HG.1.mono (Nat.le_succ _)⟩⟩
 ·have hq1 : ((dist.length : Int) != (n : Int)) = true := by simp; omega
  have HF := ak (show lensB n dist = false by unfold lensB; rw [decide_eq_false hln, Bool.false_and])
  clear hln
  go_wp2_with fail
  go_ret
  exact ⟨HB.1, fun _ => rfl, fun h => by rw [HF.1] at h; cases h⟩
end Go.Proofs.YtenkdmloolbdaaaGreatDoor.TZ
end
