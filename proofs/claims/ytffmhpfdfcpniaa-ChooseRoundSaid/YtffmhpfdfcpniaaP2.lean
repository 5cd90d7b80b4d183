/- Printed by the kit for this seat, cut by cutp.py: functions as Lean functions, and that the code comes to them. -/
import Derived.Test.YtffmhpfdfcpniaaP0
namespace Go.Proofs.Ytffmhpfdfcpniaa.PH
open Go.RowKit Go.Proofs.YtffmhpfdfcpniaaW.PrintWords Go.Proofs.YtffmhpfdfcpniaaW.PrintLast Go.Proofs.YtffmhpfdfcpniaaW.PrintMore
attribute [local go_sem] max2_int min2_int max_two min_two max_three min_three max_four min_four   -- for this text's walks alone
set_option linter.unusedVariables false
set_option linter.unusedSimpArgs false

/-! ### messuageref03_Check: function 16 -/
mutual
def messuageref03_Check.l0 : Nat → Bool → Int → Int → Int → List Int → List (List Int) → Option (Int)
  | 0, _, _, _, _, _, _ => none
  | k + 1, x3, x4, x138000, x138001, x138002, x138003 => if x4 ≤ 1024 then (if x3 = true then (messuageref03_Check.l0 k true (wrap64 (2 * x4)) x138000 x138001 x138002 x138003) else (messuageref03_Check.l0 k (x138001 == x4) (wrap64 (2 * x4)) x138000 x138001 x138002 x138003)) else (if x138000 < 1 then (messuageref03_Check.j1 k true x138000 x138001 x138002 x138003) else (if x138000 > 8 then (messuageref03_Check.j1 k true x138000 x138001 x138002 x138003) else (if x3 = true then (if (x138002.length : Int) < 1 then (messuageref03_Check.j1 k true x138000 x138001 x138002 x138003) else (messuageref03_Check.j1 k (decide ((x138002.length : Int) > 16)) x138000 x138001 x138002 x138003)) else (messuageref03_Check.j1 k true x138000 x138001 x138002 x138003))))
def messuageref03_Check.j1 : Nat → Bool → Int → Int → List Int → List (List Int) → Option (Int)
  | 0, _, _, _, _, _ => none
  | k + 1, x44, x138000, x138001, x138002, x138003 => if x44 = true then (some 3) else (messuageref03_Check.l1 k 0 x138000 x138001 x138002 x138003)
def messuageref03_Check.l1 : Nat → Int → Int → Int → List Int → List (List Int) → Option (Int)
  | 0, _, _, _, _, _ => none
  | k + 1, x5, x138000, x138001, x138002, x138003 => if x5 < (x138002.length : Int) then (if 0 ≤ x5 then (if (rd x138002 x5) < 0 then (some 10) else (if (rd x138002 x5) ≥ x138000 then (some 10) else (messuageref03_Check.l1 k (wrap64 (x5 + 1)) x138000 x138001 x138002 x138003))) else (none)) else (if (x138003.length : Int) = x138000 then (messuageref03_Check.l2 k 0 x138000 x138001 x138002 x138003) else (some 4))
def messuageref03_Check.l2 : Nat → Int → Int → Int → List Int → List (List Int) → Option (Int)
  | 0, _, _, _, _, _ => none
  | k + 1, x6, x138000, x138001, x138002, x138003 => if x6 < x138000 then (if 0 ≤ x6 then (if x6 < (x138003.length : Int) then (if ((rd_L1 x138003 x6).length : Int) = x138000 then (messuageref03_Check.l2 k (wrap64 (x6 + 1)) x138000 x138001 x138002 x138003) else (some 4)) else (none)) else (none)) else (messuageref03_Check.l3 k 0 x138000 x138001 x138002 x138003)
def messuageref03_Check.l3 : Nat → Int → Int → Int → List Int → List (List Int) → Option (Int)
  | 0, _, _, _, _, _ => none
  | k + 1, x7, x138000, x138001, x138002, x138003 => if x7 < x138000 then (messuageref03_Check.l4 k x7 0 x138000 x138001 x138002 x138003) else (some 0)
def messuageref03_Check.l4 : Nat → Int → Int → Int → Int → List Int → List (List Int) → Option (Int)
  | 0, _, _, _, _, _, _ => none
  | k + 1, x7, x8, x138000, x138001, x138002, x138003 => if x8 < x138000 then (if 0 ≤ x7 then (if x7 < (x138003.length : Int) then (if 0 ≤ x8 then (if x8 < ((rd_L1 x138003 x7).length : Int) then (if x7 = x8 then (if (rd (rd_L1 x138003 x7) x8) = 10 then (messuageref03_Check.l4 k x7 (wrap64 (x8 + 1)) x138000 x138001 x138002 x138003) else (some 4)) else (if (rd (rd_L1 x138003 x7) x8) < 11 then (some 4) else (if (rd (rd_L1 x138003 x7) x8) > 255 then (some 4) else (if x8 < (x138003.length : Int) then (if x7 < ((rd_L1 x138003 x8).length : Int) then (if (rd (rd_L1 x138003 x7) x8) = (rd (rd_L1 x138003 x8) x7) then (messuageref03_Check.l4 k x7 (wrap64 (x8 + 1)) x138000 x138001 x138002 x138003) else (some 4)) else (none)) else (none))))) else (none)) else (none)) else (none)) else (none)) else (messuageref03_Check.l3 k (wrap64 (x7 + 1)) x138000 x138001 x138002 x138003)
end
def messuageref03_Check.f (k : Nat) (a0_0 : Int) (a0_1 : Int) (l0_2 : List Int) (l0_3 : List (List Int)) : Option (Int) := messuageref03_Check.l0 k false 1 a0_0 a0_1 l0_2 l0_3
theorem messuageref03_Check.mono_l : ∀ k, (∀ y0 y1 y2 y3 y4 y5, LeO (messuageref03_Check.l0 k y0 y1 y2 y3 y4 y5) (messuageref03_Check.l0 (k + 1) y0 y1 y2 y3 y4 y5)) ∧ (∀ y0 y1 y2 y3 y4, LeO (messuageref03_Check.j1 k y0 y1 y2 y3 y4) (messuageref03_Check.j1 (k + 1) y0 y1 y2 y3 y4)) ∧ (∀ y0 y1 y2 y3 y4, LeO (messuageref03_Check.l1 k y0 y1 y2 y3 y4) (messuageref03_Check.l1 (k + 1) y0 y1 y2 y3 y4)) ∧ (∀ y0 y1 y2 y3 y4, LeO (messuageref03_Check.l2 k y0 y1 y2 y3 y4) (messuageref03_Check.l2 (k + 1) y0 y1 y2 y3 y4)) ∧ (∀ y0 y1 y2 y3 y4, LeO (messuageref03_Check.l3 k y0 y1 y2 y3 y4) (messuageref03_Check.l3 (k + 1) y0 y1 y2 y3 y4)) ∧ (∀ y0 y1 y2 y3 y4 y5, LeO (messuageref03_Check.l4 k y0 y1 y2 y3 y4 y5) (messuageref03_Check.l4 (k + 1) y0 y1 y2 y3 y4 y5))
  | 0 => ⟨fun _ _ _ _ _ _ r h => by simp [messuageref03_Check.l0] at h, fun _ _ _ _ _ r h => by simp [messuageref03_Check.j1] at h, fun _ _ _ _ _ r h => by simp [messuageref03_Check.l1] at h, fun _ _ _ _ _ r h => by simp [messuageref03_Check.l2] at h, fun _ _ _ _ _ r h => by simp [messuageref03_Check.l3] at h, fun _ _ _ _ _ _ r h => by simp [messuageref03_Check.l4] at h⟩
  | k + 1 => by
    obtain ⟨ih0, ih1, ih2, ih3, ih4, ih5⟩ := messuageref03_Check.mono_l k
    refine ⟨?_, ?_, ?_, ?_, ?_, ?_⟩
    · intro y0 y1 y2 y3 y4 y5
      unfold messuageref03_Check.l0
      repeat' first
      | (with_reducible exact ih0 _ _ _ _ _ _)
      | (with_reducible exact ih1 _ _ _ _ _)
      | (with_reducible exact ih2 _ _ _ _ _)
      | (with_reducible exact ih3 _ _ _ _ _)
      | (with_reducible exact ih4 _ _ _ _ _)
      | (with_reducible exact ih5 _ _ _ _ _ _)
      | (with_reducible exact LeO.refl _)
      | (with_reducible exact LeO.none _)
      | (with_reducible refine LeO.ite ?_ ?_)
      | (with_reducible refine LeO.bind ?_ (fun _ => ?_))
      | exact ih0 _ _ _ _ _ _
      | exact ih1 _ _ _ _ _
      | exact ih2 _ _ _ _ _
      | exact ih3 _ _ _ _ _
      | exact ih4 _ _ _ _ _
      | exact ih5 _ _ _ _ _ _
      | exact LeO.none _
      | refine LeO.ite ?_ ?_
      | refine LeO.bind ?_ (fun _ => ?_)
    · intro y0 y1 y2 y3 y4
      unfold messuageref03_Check.j1
      repeat' first
      | (with_reducible exact ih0 _ _ _ _ _ _)
      | (with_reducible exact ih1 _ _ _ _ _)
      | (with_reducible exact ih2 _ _ _ _ _)
      | (with_reducible exact ih3 _ _ _ _ _)
      | (with_reducible exact ih4 _ _ _ _ _)
      | (with_reducible exact ih5 _ _ _ _ _ _)
      | (with_reducible exact LeO.refl _)
      | (with_reducible exact LeO.none _)
      | (with_reducible refine LeO.ite ?_ ?_)
      | (with_reducible refine LeO.bind ?_ (fun _ => ?_))
      | exact ih0 _ _ _ _ _ _
      | exact ih1 _ _ _ _ _
      | exact ih2 _ _ _ _ _
      | exact ih3 _ _ _ _ _
      | exact ih4 _ _ _ _ _
      | exact ih5 _ _ _ _ _ _
      | exact LeO.none _
      | refine LeO.ite ?_ ?_
      | refine LeO.bind ?_ (fun _ => ?_)
    · intro y0 y1 y2 y3 y4
      unfold messuageref03_Check.l1
      repeat' first
      | (with_reducible exact ih0 _ _ _ _ _ _)
      | (with_reducible exact ih1 _ _ _ _ _)
      | (with_reducible exact ih2 _ _ _ _ _)
      | (with_reducible exact ih3 _ _ _ _ _)
      | (with_reducible exact ih4 _ _ _ _ _)
      | (with_reducible exact ih5 _ _ _ _ _ _)
      | (with_reducible exact LeO.refl _)
      | (with_reducible exact LeO.none _)
      | (with_reducible refine LeO.ite ?_ ?_)
      | (with_reducible refine LeO.bind ?_ (fun _ => ?_))
      | exact ih0 _ _ _ _ _ _
      | exact ih1 _ _ _ _ _
      | exact ih2 _ _ _ _ _
      | exact ih3 _ _ _ _ _
      | exact ih4 _ _ _ _ _
      | exact ih5 _ _ _ _ _ _
      | exact LeO.none _
      | refine LeO.ite ?_ ?_
      | refine LeO.bind ?_ (fun _ => ?_)
    · intro y0 y1 y2 y3 y4
      unfold messuageref03_Check.l2
      repeat' first
      | (with_reducible exact ih0 _ _ _ _ _ _)
      | (with_reducible exact ih1 _ _ _ _ _)
      | (with_reducible exact ih2 _ _ _ _ _)
      | (with_reducible exact ih3 _ _ _ _ _)
      | (with_reducible exact ih4 _ _ _ _ _)
      | (with_reducible exact ih5 _ _ _ _ _ _)
      | (with_reducible exact LeO.refl _)
      | (with_reducible exact LeO.none _)
      | (with_reducible refine LeO.ite ?_ ?_)
      | (with_reducible refine LeO.bind ?_ (fun _ => ?_))
      | exact ih0 _ _ _ _ _ _
      | exact ih1 _ _ _ _ _
      | exact ih2 _ _ _ _ _
      | exact ih3 _ _ _ _ _
      | exact ih4 _ _ _ _ _
      | exact ih5 _ _ _ _ _ _
      | exact LeO.none _
      | refine LeO.ite ?_ ?_
      | refine LeO.bind ?_ (fun _ => ?_)
    · intro y0 y1 y2 y3 y4
      unfold messuageref03_Check.l3
      repeat' first
      | (with_reducible exact ih0 _ _ _ _ _ _)
      | (with_reducible exact ih1 _ _ _ _ _)
      | (with_reducible exact ih2 _ _ _ _ _)
      | (with_reducible exact ih3 _ _ _ _ _)
      | (with_reducible exact ih4 _ _ _ _ _)
      | (with_reducible exact ih5 _ _ _ _ _ _)
      | (with_reducible exact LeO.refl _)
      | (with_reducible exact LeO.none _)
      | (with_reducible refine LeO.ite ?_ ?_)
      | (with_reducible refine LeO.bind ?_ (fun _ => ?_))
      | exact ih0 _ _ _ _ _ _
      | exact ih1 _ _ _ _ _
      | exact ih2 _ _ _ _ _
      | exact ih3 _ _ _ _ _
      | exact ih4 _ _ _ _ _
      | exact ih5 _ _ _ _ _ _
      | exact LeO.none _
      | refine LeO.ite ?_ ?_
      | refine LeO.bind ?_ (fun _ => ?_)
    · intro y0 y1 y2 y3 y4 y5
      unfold messuageref03_Check.l4
      repeat' first
      | (with_reducible exact ih0 _ _ _ _ _ _)
      | (with_reducible exact ih1 _ _ _ _ _)
      | (with_reducible exact ih2 _ _ _ _ _)
      | (with_reducible exact ih3 _ _ _ _ _)
      | (with_reducible exact ih4 _ _ _ _ _)
      | (with_reducible exact ih5 _ _ _ _ _ _)
      | (with_reducible exact LeO.refl _)
      | (with_reducible exact LeO.none _)
      | (with_reducible refine LeO.ite ?_ ?_)
      | (with_reducible refine LeO.bind ?_ (fun _ => ?_))
      | exact ih0 _ _ _ _ _ _
      | exact ih1 _ _ _ _ _
      | exact ih2 _ _ _ _ _
      | exact ih3 _ _ _ _ _
      | exact ih4 _ _ _ _ _
      | exact ih5 _ _ _ _ _ _
      | exact LeO.none _
      | refine LeO.ite ?_ ?_
      | refine LeO.bind ?_ (fun _ => ?_)
theorem messuageref03_Check.mono : ∀ a0 a1 a2 a3 k, LeO (messuageref03_Check.f k a0 a1 a2 a3) (messuageref03_Check.f (k + 1) a0 a1 a2 a3) := by
  intro a0 a1 a2 a3 k
  obtain ⟨ih0, ih1, ih2, ih3, ih4, ih5⟩ := messuageref03_Check.mono_l k
  unfold messuageref03_Check.f
  repeat' first
      | (with_reducible exact ih0 _ _ _ _ _ _)
      | (with_reducible exact ih1 _ _ _ _ _)
      | (with_reducible exact ih2 _ _ _ _ _)
      | (with_reducible exact ih3 _ _ _ _ _)
      | (with_reducible exact ih4 _ _ _ _ _)
      | (with_reducible exact ih5 _ _ _ _ _ _)
      | (with_reducible exact LeO.refl _)
      | (with_reducible exact LeO.none _)
      | (with_reducible refine LeO.ite ?_ ?_)
      | (with_reducible refine LeO.bind ?_ (fun _ => ?_))
      | exact ih0 _ _ _ _ _ _
      | exact ih1 _ _ _ _ _
      | exact ih2 _ _ _ _ _
      | exact ih3 _ _ _ _ _
      | exact ih4 _ _ _ _ _
      | exact ih5 _ _ _ _ _ _
      | exact LeO.none _
      | refine LeO.ite ?_ ?_
      | refine LeO.bind ?_ (fun _ => ?_)
set_option maxHeartbeats 8000000 in
set_option maxRecDepth 100000 in
theorem messuageref03_Check.calls (k : Nat) (a0_0 : Int) (a0_1 : Int) (A0_2 : Option Addr) (c0_2 : Nat) (l0_2 : List Int) (A0_3 : Option Addr) (c0_3 : Nat) (l0_3 : List (List Int)) (r : Int) (w : World) (hr0_2 : Kd.C (Kd.int .i64) w A0_2 l0_2.length l0_2) (hc0_2 : l0_2.length ≤ c0_2) (hr0_3 : Kd.C (Kd.slice 3 (Kd.int .i64)) w A0_3 l0_3.length l0_3) (hc0_3 : l0_3.length ≤ c0_3) (h : messuageref03_Check.f k a0_0 a0_1 l0_2 l0_3 = some r) :
    Calls Try.prog 16 #[.agg #[.int .i64 a0_0, .int .i64 a0_1, .slice A0_2 l0_2.length c0_2, .slice A0_3 l0_3.length c0_3]] w fun e w' => e = .returned (.int .i64 r) ∧ Below w.heap.size w w' := by
  have hu25 := Try.underlying25
  have HR0_2 := Aside0.mk hr0_2
  have HC0_2 := Aside0.mk hc0_2
  clear hr0_2 hc0_2
  have HR0_3 := Aside0.mk hr0_3
  have HC0_3 := Aside0.mk hc0_3
  clear hr0_3 hc0_3
  have HB := Aside0.mk (Below.refl w.heap.size w)
  have H : (messuageref03_Check.l0 k false 1 a0_0 a0_1 l0_2 l0_3) = some r := h
  clear h
  have H' := Aside0.mk H
  clear H
  go_enter Try.func16, Try.ntmps16
  go_wp2_with (first | ((with_reducible refine gate_dst (N := 1) rfl ?_); (try (refine gate_guard (by rfl) ?_; dsimp only)); refine box_event ?hg (N := 1) ?hd (cs := #[.int .i64 a0_0, .int .i64 a0_1, .slice A0_2 l0_2.length c0_2, .slice A0_3 l0_3.length c0_3]) (t := 25) ?hr ?_; (case hd => rfl); (case hg => rfl); (case hr => first | (go_simp; done) | (go_simp; rfl)); intro gb137 hg w2 hbox hb; have n0_ := Aside0.mk (below_step (by repeat (first | (with_reducible first | exact HB.out | apply below_alloc | apply pw_below_drewN | apply below_drew1) | exact HB.out)) hb); have n1_ := Aside0.mk (hbox); have n2_ := Aside0.mk ((by rw [hg]; exact (below_size (by repeat (first | (with_reducible first | exact HB.out | apply below_alloc | apply pw_below_drewN | apply below_drew1) | exact HB.out))) : w.heap.size ≤ gb137)); have n3_ := Aside0.mk ((by rw [hg]; exact (below_size (by repeat (first | (with_reducible first | exact HB.out | apply below_alloc | apply pw_below_drewN | apply below_drew1) | exact HB.out))) : w.heap.size ≤ gb137)); clear HB; have HB := n0_; have BK137 := n1_; have GW137 := n2_; have GE137 := n3_; clear n0_ n1_ n2_ n3_; clear hb hbox hg))
  repeat (go_quiet (first | ((with_reducible refine gate_dst (N := 1) rfl ?_); (try (refine gate_guard (by rfl) ?_; dsimp only)); refine box_event ?hg (N := 1) ?hd (cs := #[.int .i64 a0_0, .int .i64 a0_1, .slice A0_2 l0_2.length c0_2, .slice A0_3 l0_3.length c0_3]) (t := 25) ?hr ?_; (case hd => rfl); (case hg => rfl); (case hr => first | (go_simp; done) | (go_simp; rfl)); intro gb137 hg w2 hbox hb; have n0_ := Aside0.mk (below_step (by repeat (first | (with_reducible first | exact HB.out | apply below_alloc | apply pw_below_drewN | apply below_drew1) | exact HB.out)) hb); have n1_ := Aside0.mk (hbox); have n2_ := Aside0.mk ((by rw [hg]; exact (below_size (by repeat (first | (with_reducible first | exact HB.out | apply below_alloc | apply pw_below_drewN | apply below_drew1) | exact HB.out))) : w.heap.size ≤ gb137)); have n3_ := Aside0.mk ((by rw [hg]; exact (below_size (by repeat (first | (with_reducible first | exact HB.out | apply below_alloc | apply pw_below_drewN | apply below_drew1) | exact HB.out))) : w.heap.size ≤ gb137)); clear HB; have HB := n0_; have BK137 := n1_; have GW137 := n2_; have GE137 := n3_; clear n0_ n1_ n2_ n3_; clear hb hbox hg)); try go_wp2_with (first | ((with_reducible refine gate_dst (N := 1) rfl ?_); (try (refine gate_guard (by rfl) ?_; dsimp only)); refine box_event ?hg (N := 1) ?hd (cs := #[.int .i64 a0_0, .int .i64 a0_1, .slice A0_2 l0_2.length c0_2, .slice A0_3 l0_3.length c0_3]) (t := 25) ?hr ?_; (case hd => rfl); (case hg => rfl); (case hr => first | (go_simp; done) | (go_simp; rfl)); intro gb137 hg w2 hbox hb; have n0_ := Aside0.mk (below_step (by repeat (first | (with_reducible first | exact HB.out | apply below_alloc | apply pw_below_drewN | apply below_drew1) | exact HB.out)) hb); have n1_ := Aside0.mk (hbox); have n2_ := Aside0.mk ((by rw [hg]; exact (below_size (by repeat (first | (with_reducible first | exact HB.out | apply below_alloc | apply pw_below_drewN | apply below_drew1) | exact HB.out))) : w.heap.size ≤ gb137)); have n3_ := Aside0.mk ((by rw [hg]; exact (below_size (by repeat (first | (with_reducible first | exact HB.out | apply below_alloc | apply pw_below_drewN | apply below_drew1) | exact HB.out))) : w.heap.size ≤ gb137)); clear HB; have HB := n0_; have BK137 := n1_; have GW137 := n2_; have GE137 := n3_; clear n0_ n1_ n2_ n3_; clear hb hbox hg)))
  go_loopg [3, 4] k (fun kq v3 v4 w' => ∃ (x3_1 : Bool) (x4_1 : Int), v3 = .bool x3_1 ∧ v4 = .int .i64 x4_1 ∧ Aside0 (messuageref03_Check.l0 kq x3_1 x4_1 a0_0 a0_1 l0_2 l0_3 = some r) ∧ Aside0 (kq ≤ k) ∧ Aside0 (w'.heap[gb137]? = some (.cells #[.int .i64 a0_0, .int .i64 a0_1, (.slice A0_2 l0_2.length c0_2), (.slice A0_3 l0_3.length c0_3)] 25 (0, 0))) ∧ Aside0 (Below w.heap.size w w'))
  case atStart => exact ⟨(false), (1), (by first | rfl | (simp; done) | (simp [*]; done)), (by first | rfl | (simp; done) | (simp [*]; done)), H', ⟨Nat.le_refl _⟩, ⟨by (with_reducible repeat (first | refine blk_drewN ?_ _ | refine blk_drew ?_ | refine blk_alloc ?_ _)); exact BK137.out⟩, ⟨by repeat (first | (with_reducible first | exact HB.out | apply below_alloc | apply pw_below_drewN | apply below_drew1 | refine below_set ?_ GE137.out) | exact HB.out)⟩⟩
  case round =>
    clear H'
    try clear c1
    try clear p2
    obtain ⟨x3_1, x4_1, rfl, rfl, HA, HK1, BK137, HB⟩ := hrel
    cases gk with
    | zero => exact absurd HA.out (by simp [messuageref03_Check.l0])
    | succ k1 =>
      have H := HA.out
      clear HA
      simp only [messuageref03_Check.l0] at H
      by_cases c3 : x4_1 ≤ 1024
      · rw [if_pos c3] at H
        have c3b0 : decide (x4_1 ≤ 1024) = true := decide_eq_true c3
        clear c3
        by_cases c4 : x3_1 = true
        · subst c4
          have H1 : (messuageref03_Check.l0 k1 true (wrap64 (2 * x4_1)) a0_0 a0_1 l0_2 l0_3) = some r := by rw [if_pos rfl] at H; exact H
          clear H
          have H := H1
          clear H1
          have H' := Aside0.mk H
          clear H
          go_wp2
          repeat (go_quiet (fail); try go_wp2)
          go_roundg k1
          case measure => have := HK1.out; omega
          case rel => exact ⟨(true), (wrap64 (2 * x4_1)), (by first | rfl | (simp; done) | (simp [*]; done)), (by first | rfl | (simp; done) | (simp [*]; done)), H', ⟨by have := HK1.out; omega⟩, ⟨by (with_reducible repeat (first | refine blk_drewN ?_ _ | refine blk_drew ?_ | refine blk_alloc ?_ _)); exact BK137.out⟩, ⟨by repeat (first | (with_reducible first | exact HB.out | apply below_alloc | apply pw_below_drewN | apply below_drew1 | refine below_set ?_ GE137.out) | exact HB.out)⟩⟩
        · replace c4 := Bool.eq_false_iff.mpr c4
          subst c4
          have H1 : (messuageref03_Check.l0 k1 (a0_1 == x4_1) (wrap64 (2 * x4_1)) a0_0 a0_1 l0_2 l0_3) = some r := by rw [if_neg (show ¬ (false = true) by decide)] at H; exact H
          clear H
          have H := H1
          clear H1
          have H' := Aside0.mk H
          clear H
          have hcz5_0 : wr.cell? ⟨gb137, 0, none⟩ = some (.int .i64 a0_0) := (blk_cell BK137.out 0).trans rfl
          have hcz5_1 : wr.cell? ⟨gb137, 1, none⟩ = some (.int .i64 a0_1) := (blk_cell BK137.out 1).trans rfl
          have hcz5_2 : wr.cell? ⟨gb137, 2, none⟩ = some (.slice A0_2 l0_2.length c0_2) := (blk_cell BK137.out 2).trans rfl
          have hcz5_3 : wr.cell? ⟨gb137, 3, none⟩ = some (.slice A0_3 l0_3.length c0_3) := (blk_cell BK137.out 3).trans rfl
          have hfz5_0 := blk_frozen BK137.out 0
          have hfz5_1 := blk_frozen BK137.out 1
          have hfz5_2 := blk_frozen BK137.out 2
          have hfz5_3 := blk_frozen BK137.out 3
          go_wp2
          repeat (go_quiet (fail); try go_wp2)
          go_roundg k1
          case measure => have := HK1.out; omega
          case rel => exact ⟨((a0_1 == x4_1)), (wrap64 (2 * x4_1)), (by first | rfl | (simp; done) | (simp [*]; done)), (by first | rfl | (simp; done) | (simp [*]; done)), H', ⟨by have := HK1.out; omega⟩, ⟨by (with_reducible repeat (first | refine blk_drewN ?_ _ | refine blk_drew ?_ | refine blk_alloc ?_ _)); exact BK137.out⟩, ⟨by repeat (first | (with_reducible first | exact HB.out | apply below_alloc | apply pw_below_drewN | apply below_drew1 | refine below_set ?_ GE137.out) | exact HB.out)⟩⟩
      · rw [if_neg c3] at H
        have c3b0 : decide (x4_1 ≤ 1024) = false := decide_eq_false c3
        clear c3
        have HC6 := Aside0.mk H
        clear H
        go_upto_region 6 with (fail)
        repeat (go_quiet (fail); go_upto_region 6 with (fail))
        go_cut [44] (fun v44 wc => ∃ (kq : Nat) (x44_5 : Bool), v44 = .bool x44_5 ∧ Aside0 (messuageref03_Check.j1 kq x44_5 a0_0 a0_1 l0_2 l0_3 = some r) ∧ Aside0 (kq ≤ k1) ∧ Aside0 (wc.heap[gb137]? = some (.cells #[.int .i64 a0_0, .int .i64 a0_1, (.slice A0_2 l0_2.length c0_2), (.slice A0_3 l0_3.length c0_3)] 25 (0, 0))) ∧ Aside0 (Below w.heap.size w wc))
        case first =>
          have H := HC6.out
          clear HC6
          by_cases c7 : a0_0 < 1
          · rw [if_pos c7] at H
            have c7b0 : decide (a0_0 < 1) = true := decide_eq_true c7
            clear c7
            (first | rw [c7b0] | (simp only [i64_w, i32_w]; rw [c7b0]) | skip)
            have H' := Aside0.mk H
            clear H
            have hcz8_0 : wr.cell? ⟨gb137, 0, none⟩ = some (.int .i64 a0_0) := (blk_cell BK137.out 0).trans rfl
            have hcz8_1 : wr.cell? ⟨gb137, 1, none⟩ = some (.int .i64 a0_1) := (blk_cell BK137.out 1).trans rfl
            have hcz8_2 : wr.cell? ⟨gb137, 2, none⟩ = some (.slice A0_2 l0_2.length c0_2) := (blk_cell BK137.out 2).trans rfl
            have hcz8_3 : wr.cell? ⟨gb137, 3, none⟩ = some (.slice A0_3 l0_3.length c0_3) := (blk_cell BK137.out 3).trans rfl
            have hfz8_0 := blk_frozen BK137.out 0
            have hfz8_1 := blk_frozen BK137.out 1
            have hfz8_2 := blk_frozen BK137.out 2
            have hfz8_3 := blk_frozen BK137.out 3
            go_wp2
            repeat (go_quiet (fail); try go_wp2)
            go_meet
            case rel => exact ⟨_, (true), (by first | rfl | (simp; done) | (simp [*]; done)), H', ⟨by have := HK1.out; first | omega | exact Nat.le_refl _⟩, ⟨by (with_reducible repeat (first | refine blk_drewN ?_ _ | refine blk_drew ?_ | refine blk_alloc ?_ _)); exact BK137.out⟩, ⟨by repeat (first | (with_reducible first | exact HB.out | apply below_alloc | apply pw_below_drewN | apply below_drew1 | refine below_set ?_ GE137.out) | exact HB.out)⟩⟩
          · rw [if_neg c7] at H
            have c7b0 : decide (a0_0 < 1) = false := decide_eq_false c7
            clear c7
            (first | rw [c7b0] | (simp only [i64_w, i32_w]; rw [c7b0]) | skip)
            by_cases c9 : a0_0 > 8
            · rw [if_pos c9] at H
              have c9b0 : decide (8 < a0_0) = true := decide_eq_true c9
              clear c9
              have H' := Aside0.mk H
              clear H
              have hcz10_0 : wr.cell? ⟨gb137, 0, none⟩ = some (.int .i64 a0_0) := (blk_cell BK137.out 0).trans rfl
              have hcz10_1 : wr.cell? ⟨gb137, 1, none⟩ = some (.int .i64 a0_1) := (blk_cell BK137.out 1).trans rfl
              have hcz10_2 : wr.cell? ⟨gb137, 2, none⟩ = some (.slice A0_2 l0_2.length c0_2) := (blk_cell BK137.out 2).trans rfl
              have hcz10_3 : wr.cell? ⟨gb137, 3, none⟩ = some (.slice A0_3 l0_3.length c0_3) := (blk_cell BK137.out 3).trans rfl
              have hfz10_0 := blk_frozen BK137.out 0
              have hfz10_1 := blk_frozen BK137.out 1
              have hfz10_2 := blk_frozen BK137.out 2
              have hfz10_3 := blk_frozen BK137.out 3
              go_wp2
              repeat (go_quiet (fail); try go_wp2)
              go_meet
              case rel => exact ⟨_, (true), (by first | rfl | (simp; done) | (simp [*]; done)), H', ⟨by have := HK1.out; first | omega | exact Nat.le_refl _⟩, ⟨by (with_reducible repeat (first | refine blk_drewN ?_ _ | refine blk_drew ?_ | refine blk_alloc ?_ _)); exact BK137.out⟩, ⟨by repeat (first | (with_reducible first | exact HB.out | apply below_alloc | apply pw_below_drewN | apply below_drew1 | refine below_set ?_ GE137.out) | exact HB.out)⟩⟩
            · rw [if_neg c9] at H
              have c9b0 : decide (8 < a0_0) = false := decide_eq_false c9
              clear c9
              by_cases c11 : x3_1 = true
              · subst c11
                have H1 : (if (l0_2.length : Int) < 1 then (messuageref03_Check.j1 k1 true a0_0 a0_1 l0_2 l0_3) else (messuageref03_Check.j1 k1 (decide ((l0_2.length : Int) > 16)) a0_0 a0_1 l0_2 l0_3)) = some r := by rw [if_pos rfl] at H; exact H
                clear H
                have H := H1
                clear H1
                by_cases c12 : (l0_2.length : Int) < 1
                · rw [if_pos c12] at H
                  have c12b0 : decide ((l0_2.length : Int) < 1) = true := decide_eq_true c12
                  have c12b1 : decide (l0_2.length < 1) = true := decide_eq_true (by omega)
                  clear c12
                  have H' := Aside0.mk H
                  clear H
                  have hcz13_0 : wr.cell? ⟨gb137, 0, none⟩ = some (.int .i64 a0_0) := (blk_cell BK137.out 0).trans rfl
                  have hcz13_1 : wr.cell? ⟨gb137, 1, none⟩ = some (.int .i64 a0_1) := (blk_cell BK137.out 1).trans rfl
                  have hcz13_2 : wr.cell? ⟨gb137, 2, none⟩ = some (.slice A0_2 l0_2.length c0_2) := (blk_cell BK137.out 2).trans rfl
                  have hcz13_3 : wr.cell? ⟨gb137, 3, none⟩ = some (.slice A0_3 l0_3.length c0_3) := (blk_cell BK137.out 3).trans rfl
                  have hfz13_0 := blk_frozen BK137.out 0
                  have hfz13_1 := blk_frozen BK137.out 1
                  have hfz13_2 := blk_frozen BK137.out 2
                  have hfz13_3 := blk_frozen BK137.out 3
                  go_wp2
                  repeat (go_quiet (fail); try go_wp2)
                  go_meet
                  case rel => exact ⟨_, (true), (by first | rfl | (simp; done) | (simp [*]; done)), H', ⟨by have := HK1.out; first | omega | exact Nat.le_refl _⟩, ⟨by (with_reducible repeat (first | refine blk_drewN ?_ _ | refine blk_drew ?_ | refine blk_alloc ?_ _)); exact BK137.out⟩, ⟨by repeat (first | (with_reducible first | exact HB.out | apply below_alloc | apply pw_below_drewN | apply below_drew1 | refine below_set ?_ GE137.out) | exact HB.out)⟩⟩
                · rw [if_neg c12] at H
                  have c12b0 : decide ((l0_2.length : Int) < 1) = false := decide_eq_false c12
                  have c12b1 : decide (l0_2.length < 1) = false := decide_eq_false (by omega)
                  clear c12
                  have H' := Aside0.mk H
                  clear H
                  have hcz14_0 : wr.cell? ⟨gb137, 0, none⟩ = some (.int .i64 a0_0) := (blk_cell BK137.out 0).trans rfl
                  have hcz14_1 : wr.cell? ⟨gb137, 1, none⟩ = some (.int .i64 a0_1) := (blk_cell BK137.out 1).trans rfl
                  have hcz14_2 : wr.cell? ⟨gb137, 2, none⟩ = some (.slice A0_2 l0_2.length c0_2) := (blk_cell BK137.out 2).trans rfl
                  have hcz14_3 : wr.cell? ⟨gb137, 3, none⟩ = some (.slice A0_3 l0_3.length c0_3) := (blk_cell BK137.out 3).trans rfl
                  have hfz14_0 := blk_frozen BK137.out 0
                  have hfz14_1 := blk_frozen BK137.out 1
                  have hfz14_2 := blk_frozen BK137.out 2
                  have hfz14_3 := blk_frozen BK137.out 3
                  go_wp2
                  repeat (go_quiet (fail); try go_wp2)
                  go_meet
                  case rel => exact ⟨_, (decide ((l0_2.length : Int) > 16)), (by first | rfl | (simp; done) | (simp [*]; done)), H', ⟨by have := HK1.out; first | omega | exact Nat.le_refl _⟩, ⟨by (with_reducible repeat (first | refine blk_drewN ?_ _ | refine blk_drew ?_ | refine blk_alloc ?_ _)); exact BK137.out⟩, ⟨by repeat (first | (with_reducible first | exact HB.out | apply below_alloc | apply pw_below_drewN | apply below_drew1 | refine below_set ?_ GE137.out) | exact HB.out)⟩⟩
              · replace c11 := Bool.eq_false_iff.mpr c11
                subst c11
                have H1 : (messuageref03_Check.j1 k1 true a0_0 a0_1 l0_2 l0_3) = some r := by rw [if_neg (show ¬ (false = true) by decide)] at H; exact H
                clear H
                have H := H1
                clear H1
                have H' := Aside0.mk H
                clear H
                have hcz15_0 : wr.cell? ⟨gb137, 0, none⟩ = some (.int .i64 a0_0) := (blk_cell BK137.out 0).trans rfl
                have hcz15_1 : wr.cell? ⟨gb137, 1, none⟩ = some (.int .i64 a0_1) := (blk_cell BK137.out 1).trans rfl
                have hcz15_2 : wr.cell? ⟨gb137, 2, none⟩ = some (.slice A0_2 l0_2.length c0_2) := (blk_cell BK137.out 2).trans rfl
                have hcz15_3 : wr.cell? ⟨gb137, 3, none⟩ = some (.slice A0_3 l0_3.length c0_3) := (blk_cell BK137.out 3).trans rfl
                have hfz15_0 := blk_frozen BK137.out 0
                have hfz15_1 := blk_frozen BK137.out 1
                have hfz15_2 := blk_frozen BK137.out 2
                have hfz15_3 := blk_frozen BK137.out 3
                go_wp2
                repeat (go_quiet (fail); try go_wp2)
                go_meet
                case rel => exact ⟨_, (true), (by first | rfl | (simp; done) | (simp [*]; done)), H', ⟨by have := HK1.out; first | omega | exact Nat.le_refl _⟩, ⟨by (with_reducible repeat (first | refine blk_drewN ?_ _ | refine blk_drew ?_ | refine blk_alloc ?_ _)); exact BK137.out⟩, ⟨by repeat (first | (with_reducible first | exact HB.out | apply below_alloc | apply pw_below_drewN | apply below_drew1 | refine below_set ?_ GE137.out) | exact HB.out)⟩⟩
        case rest =>
          clear HC6
          try clear c1
          try clear p2
          try clear c3
          try clear c3b0
          try clear c4
          try clear p6
          try clear c7
          try clear c7b0
          try clear c9
          try clear c9b0
          try clear c11
          try clear c12
          try clear c12b0
          try clear c12b1
          try clear hcz10_0
          try clear hcz10_1
          try clear hcz10_2
          try clear hcz10_3
          try clear hcz13_0
          try clear hcz13_1
          try clear hcz13_2
          try clear hcz13_3
          try clear hcz14_0
          try clear hcz14_1
          try clear hcz14_2
          try clear hcz14_3
          try clear hcz15_0
          try clear hcz15_1
          try clear hcz15_2
          try clear hcz15_3
          try clear hcz5_0
          try clear hcz5_1
          try clear hcz5_2
          try clear hcz5_3
          try clear hcz8_0
          try clear hcz8_1
          try clear hcz8_2
          try clear hcz8_3
          try clear hfz10_0
          try clear hfz10_1
          try clear hfz10_2
          try clear hfz10_3
          try clear hfz13_0
          try clear hfz13_1
          try clear hfz13_2
          try clear hfz13_3
          try clear hfz14_0
          try clear hfz14_1
          try clear hfz14_2
          try clear hfz14_3
          try clear hfz15_0
          try clear hfz15_1
          try clear hfz15_2
          try clear hfz15_3
          try clear hfz5_0
          try clear hfz5_1
          try clear hfz5_2
          try clear hfz5_3
          try clear hfz8_0
          try clear hfz8_1
          try clear hfz8_2
          try clear hfz8_3
          try clear p2
          obtain ⟨kq, x44_5, rfl, HA, HJ5, BK137, HB⟩ := hcut
          cases kq with
          | zero => exact absurd HA.out (by simp [messuageref03_Check.j1])
          | succ kj5 =>
            have H := HA.out
            clear HA
            simp only [messuageref03_Check.j1] at H
            by_cases c16 : x44_5 = true
            · subst c16
              have H1 : (some 3) = some r := by rw [if_pos rfl] at H; exact H
              clear H
              have H := H1
              clear H1
              obtain rfl := Option.some.inj H
              go_wp2
              repeat (go_quiet (fail); try go_wp2)
              go_ret
              exact ⟨by first | rfl | (simp [errW_none, errW_some] <;> rfl) | (simp [*, errW_none, errW_some] <;> rfl), by repeat (first | (with_reducible first | exact HB.out | apply below_alloc | apply pw_below_drewN | apply below_drew1 | refine below_set ?_ GE137.out) | exact HB.out)⟩
            · replace c16 := Bool.eq_false_iff.mpr c16
              subst c16
              have H1 : (messuageref03_Check.l1 kj5 0 a0_0 a0_1 l0_2 l0_3) = some r := by rw [if_neg (show ¬ (false = true) by decide)] at H; exact H
              clear H
              have H := H1
              clear H1
              have H' := Aside0.mk H
              clear H
              go_wp2
              repeat (go_quiet (fail); try go_wp2)
              go_loopg [5] kj5 (fun kq v5 w' => ∃ (x5_3 : Int), v5 = .int .i64 x5_3 ∧ Aside0 (messuageref03_Check.l1 kq x5_3 a0_0 a0_1 l0_2 l0_3 = some r) ∧ Aside0 (kq ≤ kj5) ∧ Aside0 (w'.heap[gb137]? = some (.cells #[.int .i64 a0_0, .int .i64 a0_1, (.slice A0_2 l0_2.length c0_2), (.slice A0_3 l0_3.length c0_3)] 25 (0, 0))) ∧ Aside0 (Below w.heap.size w w'))
              case atStart => exact ⟨(0), (by first | rfl | (simp; done) | (simp [*]; done)), H', ⟨Nat.le_refl _⟩, ⟨by (with_reducible repeat (first | refine blk_drewN ?_ _ | refine blk_drew ?_ | refine blk_alloc ?_ _)); exact BK137.out⟩, ⟨by repeat (first | (with_reducible first | exact HB.out | apply below_alloc | apply pw_below_drewN | apply below_drew1 | refine below_set ?_ GE137.out) | exact HB.out)⟩⟩
              case round =>
                clear H'
                try clear c1
                try clear p2
                try clear c3
                try clear c3b0
                try clear c4
                try clear p6
                try clear c7
                try clear c7b0
                try clear c9
                try clear c9b0
                try clear c11
                try clear c12
                try clear c12b0
                try clear c12b1
                try clear c16
                try clear hcz10_0
                try clear hcz10_1
                try clear hcz10_2
                try clear hcz10_3
                try clear hcz13_0
                try clear hcz13_1
                try clear hcz13_2
                try clear hcz13_3
                try clear hcz14_0
                try clear hcz14_1
                try clear hcz14_2
                try clear hcz14_3
                try clear hcz15_0
                try clear hcz15_1
                try clear hcz15_2
                try clear hcz15_3
                try clear hcz5_0
                try clear hcz5_1
                try clear hcz5_2
                try clear hcz5_3
                try clear hcz8_0
                try clear hcz8_1
                try clear hcz8_2
                try clear hcz8_3
                try clear hfz10_0
                try clear hfz10_1
                try clear hfz10_2
                try clear hfz10_3
                try clear hfz13_0
                try clear hfz13_1
                try clear hfz13_2
                try clear hfz13_3
                try clear hfz14_0
                try clear hfz14_1
                try clear hfz14_2
                try clear hfz14_3
                try clear hfz15_0
                try clear hfz15_1
                try clear hfz15_2
                try clear hfz15_3
                try clear hfz5_0
                try clear hfz5_1
                try clear hfz5_2
                try clear hfz5_3
                try clear hfz8_0
                try clear hfz8_1
                try clear hfz8_2
                try clear hfz8_3
                try clear p2
                try clear p6
                obtain ⟨x5_3, rfl, HA, HK3, BK137, HB⟩ := hrel
                cases gk with
                | zero => exact absurd HA.out (by simp [messuageref03_Check.l1])
                | succ k3 =>
                  have H := HA.out
                  clear HA
                  simp only [messuageref03_Check.l1] at H
                  by_cases c17 : x5_3 < (l0_2.length : Int)
                  · rw [if_pos c17] at H
                    have c17b0 : decide (x5_3 < (l0_2.length : Int)) = true := decide_eq_true c17
                    clear c17
                    by_cases c18 : 0 ≤ x5_3
                    · rw [if_pos c18] at H
                      have c18b0 : decide (0 ≤ x5_3) = true := decide_eq_true c18
                      clear c18
                      by_cases c19 : (rd l0_2 x5_3) < 0
                      · rw [if_pos c19] at H
                        have c19b0 : decide ((rd l0_2 x5_3) < 0) = true := decide_eq_true c19
                        clear c19
                        obtain rfl := Option.some.inj H
                        have hcz20_0 : wr.cell? ⟨gb137, 0, none⟩ = some (.int .i64 a0_0) := (blk_cell BK137.out 0).trans rfl
                        have hcz20_1 : wr.cell? ⟨gb137, 1, none⟩ = some (.int .i64 a0_1) := (blk_cell BK137.out 1).trans rfl
                        have hcz20_2 : wr.cell? ⟨gb137, 2, none⟩ = some (.slice A0_2 l0_2.length c0_2) := (blk_cell BK137.out 2).trans rfl
                        have hcz20_3 : wr.cell? ⟨gb137, 3, none⟩ = some (.slice A0_3 l0_3.length c0_3) := (blk_cell BK137.out 3).trans rfl
                        have hfz20_0 := blk_frozen BK137.out 0
                        have hfz20_1 := blk_frozen BK137.out 1
                        have hfz20_2 := blk_frozen BK137.out 2
                        have hfz20_3 := blk_frozen BK137.out 3
                        have p138 : 0 ≤ (x5_3 : Int) := of_decide_eq_true (by first | (with_reducible assumption) | assumption)
                        have q138 : x5_3 < (l0_2.length : Int) := of_decide_eq_true (by first | (with_reducible assumption) | assumption)
                        obtain ⟨ad138, e138, hx138_0⟩ := Kd.at_int HR0_2.out x5_3 p138 q138
                        cases e138
                        replace hx138_0 := (HB.out.cell (World.block_lt_of_cell? w _ hx138_0)).trans hx138_0
                        replace p138 := eq_true p138
                        replace q138 := eq_true q138
                        go_wp2
                        repeat (go_quiet (fail); try go_wp2)
                        go_ret
                        exact ⟨by first | rfl | (simp [errW_none, errW_some] <;> rfl) | (simp [*, errW_none, errW_some] <;> rfl), by repeat (first | (with_reducible first | exact HB.out | apply below_alloc | apply pw_below_drewN | apply below_drew1 | refine below_set ?_ GE137.out) | exact HB.out)⟩
                      · rw [if_neg c19] at H
                        have c19b0 : decide ((rd l0_2 x5_3) < 0) = false := decide_eq_false c19
                        clear c19
                        by_cases c21 : (rd l0_2 x5_3) ≥ a0_0
                        · rw [if_pos c21] at H
                          have c21b0 : decide (a0_0 ≤ (rd l0_2 x5_3)) = true := decide_eq_true c21
                          clear c21
                          obtain rfl := Option.some.inj H
                          have hcz22_0 : wr.cell? ⟨gb137, 0, none⟩ = some (.int .i64 a0_0) := (blk_cell BK137.out 0).trans rfl
                          have hcz22_1 : wr.cell? ⟨gb137, 1, none⟩ = some (.int .i64 a0_1) := (blk_cell BK137.out 1).trans rfl
                          have hcz22_2 : wr.cell? ⟨gb137, 2, none⟩ = some (.slice A0_2 l0_2.length c0_2) := (blk_cell BK137.out 2).trans rfl
                          have hcz22_3 : wr.cell? ⟨gb137, 3, none⟩ = some (.slice A0_3 l0_3.length c0_3) := (blk_cell BK137.out 3).trans rfl
                          have hfz22_0 := blk_frozen BK137.out 0
                          have hfz22_1 := blk_frozen BK137.out 1
                          have hfz22_2 := blk_frozen BK137.out 2
                          have hfz22_3 := blk_frozen BK137.out 3
                          have p138 : 0 ≤ (x5_3 : Int) := of_decide_eq_true (by first | (with_reducible assumption) | assumption)
                          have q138 : x5_3 < (l0_2.length : Int) := of_decide_eq_true (by first | (with_reducible assumption) | assumption)
                          obtain ⟨ad138, e138, hx138_0⟩ := Kd.at_int HR0_2.out x5_3 p138 q138
                          cases e138
                          replace hx138_0 := (HB.out.cell (World.block_lt_of_cell? w _ hx138_0)).trans hx138_0
                          replace p138 := eq_true p138
                          replace q138 := eq_true q138
                          have p139 : 0 ≤ (x5_3 : Int) := of_decide_eq_true (by first | (with_reducible assumption) | assumption)
                          have q139 : x5_3 < (l0_2.length : Int) := of_decide_eq_true (by first | (with_reducible assumption) | assumption)
                          obtain ⟨ad139, e139, hx139_0⟩ := Kd.at_int HR0_2.out x5_3 p139 q139
                          obtain rfl : ad138 = ad139 := (by injection e139)
                          replace hx139_0 := (HB.out.cell (World.block_lt_of_cell? w _ hx139_0)).trans hx139_0
                          replace p139 := eq_true p139
                          replace q139 := eq_true q139
                          go_wp2
                          repeat (go_quiet (fail); try go_wp2)
                          go_ret
                          exact ⟨by first | rfl | (simp [errW_none, errW_some] <;> rfl) | (simp [*, errW_none, errW_some] <;> rfl), by repeat (first | (with_reducible first | exact HB.out | apply below_alloc | apply pw_below_drewN | apply below_drew1 | refine below_set ?_ GE137.out) | exact HB.out)⟩
                        · rw [if_neg c21] at H
                          have c21b0 : decide (a0_0 ≤ (rd l0_2 x5_3)) = false := decide_eq_false c21
                          clear c21
                          have H' := Aside0.mk H
                          clear H
                          have hcz23_0 : wr.cell? ⟨gb137, 0, none⟩ = some (.int .i64 a0_0) := (blk_cell BK137.out 0).trans rfl
                          have hcz23_1 : wr.cell? ⟨gb137, 1, none⟩ = some (.int .i64 a0_1) := (blk_cell BK137.out 1).trans rfl
                          have hcz23_2 : wr.cell? ⟨gb137, 2, none⟩ = some (.slice A0_2 l0_2.length c0_2) := (blk_cell BK137.out 2).trans rfl
                          have hcz23_3 : wr.cell? ⟨gb137, 3, none⟩ = some (.slice A0_3 l0_3.length c0_3) := (blk_cell BK137.out 3).trans rfl
                          have hfz23_0 := blk_frozen BK137.out 0
                          have hfz23_1 := blk_frozen BK137.out 1
                          have hfz23_2 := blk_frozen BK137.out 2
                          have hfz23_3 := blk_frozen BK137.out 3
                          have p138 : 0 ≤ (x5_3 : Int) := of_decide_eq_true (by first | (with_reducible assumption) | assumption)
                          have q138 : x5_3 < (l0_2.length : Int) := of_decide_eq_true (by first | (with_reducible assumption) | assumption)
                          obtain ⟨ad138, e138, hx138_0⟩ := Kd.at_int HR0_2.out x5_3 p138 q138
                          cases e138
                          replace hx138_0 := (HB.out.cell (World.block_lt_of_cell? w _ hx138_0)).trans hx138_0
                          replace p138 := eq_true p138
                          replace q138 := eq_true q138
                          have p139 : 0 ≤ (x5_3 : Int) := of_decide_eq_true (by first | (with_reducible assumption) | assumption)
                          have q139 : x5_3 < (l0_2.length : Int) := of_decide_eq_true (by first | (with_reducible assumption) | assumption)
                          obtain ⟨ad139, e139, hx139_0⟩ := Kd.at_int HR0_2.out x5_3 p139 q139
                          obtain rfl : ad138 = ad139 := (by injection e139)
                          replace hx139_0 := (HB.out.cell (World.block_lt_of_cell? w _ hx139_0)).trans hx139_0
                          replace p139 := eq_true p139
                          replace q139 := eq_true q139
                          go_wp2
                          repeat (go_quiet (fail); try go_wp2)
                          go_roundg k3
                          case measure => have := HK1.out; have := HJ5.out; have := HK3.out; omega
                          case rel => exact ⟨(wrap64 (x5_3 + 1)), (by first | rfl | (simp; done) | (simp [*]; done)), H', ⟨by have := HK1.out; have := HJ5.out; have := HK3.out; omega⟩, ⟨by (with_reducible repeat (first | refine blk_drewN ?_ _ | refine blk_drew ?_ | refine blk_alloc ?_ _)); exact BK137.out⟩, ⟨by repeat (first | (with_reducible first | exact HB.out | apply below_alloc | apply pw_below_drewN | apply below_drew1 | refine below_set ?_ GE137.out) | exact HB.out)⟩⟩
                    · rw [if_neg c18] at H
                      exact absurd H (by simp)
                  · rw [if_neg c17] at H
                    have c17b0 : decide (x5_3 < (l0_2.length : Int)) = false := decide_eq_false c17
                    clear c17
                    by_cases c24 : (l0_3.length : Int) = a0_0
                    · rw [if_pos c24] at H
                      have c24b0 : ((l0_3.length : Int) == a0_0) = true := beq_iff_eq.mpr c24
                      have c24b1 : ((l0_3.length : Int) != a0_0) = false := bne_eq_false_iff_eq.mpr c24
                      clear c24
                      have H' := Aside0.mk H
                      clear H
                      have hcz25_0 : wr.cell? ⟨gb137, 0, none⟩ = some (.int .i64 a0_0) := (blk_cell BK137.out 0).trans rfl
                      have hcz25_1 : wr.cell? ⟨gb137, 1, none⟩ = some (.int .i64 a0_1) := (blk_cell BK137.out 1).trans rfl
                      have hcz25_2 : wr.cell? ⟨gb137, 2, none⟩ = some (.slice A0_2 l0_2.length c0_2) := (blk_cell BK137.out 2).trans rfl
                      have hcz25_3 : wr.cell? ⟨gb137, 3, none⟩ = some (.slice A0_3 l0_3.length c0_3) := (blk_cell BK137.out 3).trans rfl
                      have hfz25_0 := blk_frozen BK137.out 0
                      have hfz25_1 := blk_frozen BK137.out 1
                      have hfz25_2 := blk_frozen BK137.out 2
                      have hfz25_3 := blk_frozen BK137.out 3
                      go_wp2
                      repeat (go_quiet (fail); try go_wp2)
                      go_loopg [6] k3 (fun kq v6 w' => ∃ (x6_4 : Int), v6 = .int .i64 x6_4 ∧ Aside0 (messuageref03_Check.l2 kq x6_4 a0_0 a0_1 l0_2 l0_3 = some r) ∧ Aside0 (kq ≤ k3) ∧ Aside0 (w'.heap[gb137]? = some (.cells #[.int .i64 a0_0, .int .i64 a0_1, (.slice A0_2 l0_2.length c0_2), (.slice A0_3 l0_3.length c0_3)] 25 (0, 0))) ∧ Aside0 (Below w.heap.size w w'))
                      case atStart => exact ⟨(0), (by first | rfl | (simp; done) | (simp [*]; done)), H', ⟨Nat.le_refl _⟩, ⟨by (with_reducible repeat (first | refine blk_drewN ?_ _ | refine blk_drew ?_ | refine blk_alloc ?_ _)); exact BK137.out⟩, ⟨by repeat (first | (with_reducible first | exact HB.out | apply below_alloc | apply pw_below_drewN | apply below_drew1 | refine below_set ?_ GE137.out) | exact HB.out)⟩⟩
                      case round =>
                        clear H'
                        try clear c1
                        try clear p1
                        try clear q1
                        try clear hx1
                        try clear c2
                        try clear p2
                        try clear c3
                        try clear c3b0
                        try clear c4
                        try clear p6
                        try clear c7
                        try clear c7b0
                        try clear c9
                        try clear c9b0
                        try clear c11
                        try clear c12
                        try clear c12b0
                        try clear c12b1
                        try clear p13
                        try clear q13
                        try clear hx13
                        try clear c16
                        try clear c17
                        try clear c17b0
                        try clear c18
                        try clear c18b0
                        try clear c19
                        try clear c19b0
                        try clear c21
                        try clear c21b0
                        try clear c24
                        try clear c24b0
                        try clear c24b1
                        try clear hcz10_0
                        try clear hcz10_1
                        try clear hcz10_2
                        try clear hcz10_3
                        try clear hcz13_0
                        try clear hcz13_1
                        try clear hcz13_2
                        try clear hcz13_3
                        try clear hcz14_0
                        try clear hcz14_1
                        try clear hcz14_2
                        try clear hcz14_3
                        try clear hcz15_0
                        try clear hcz15_1
                        try clear hcz15_2
                        try clear hcz15_3
                        try clear hcz20_0
                        try clear hcz20_1
                        try clear hcz20_2
                        try clear hcz20_3
                        try clear hcz22_0
                        try clear hcz22_1
                        try clear hcz22_2
                        try clear hcz22_3
                        try clear hcz23_0
                        try clear hcz23_1
                        try clear hcz23_2
                        try clear hcz23_3
                        try clear hcz25_0
                        try clear hcz25_1
                        try clear hcz25_2
                        try clear hcz25_3
                        try clear hcz5_0
                        try clear hcz5_1
                        try clear hcz5_2
                        try clear hcz5_3
                        try clear hcz8_0
                        try clear hcz8_1
                        try clear hcz8_2
                        try clear hcz8_3
                        try clear hfz10_0
                        try clear hfz10_1
                        try clear hfz10_2
                        try clear hfz10_3
                        try clear hfz13_0
                        try clear hfz13_1
                        try clear hfz13_2
                        try clear hfz13_3
                        try clear hfz14_0
                        try clear hfz14_1
                        try clear hfz14_2
                        try clear hfz14_3
                        try clear hfz15_0
                        try clear hfz15_1
                        try clear hfz15_2
                        try clear hfz15_3
                        try clear hfz20_0
                        try clear hfz20_1
                        try clear hfz20_2
                        try clear hfz20_3
                        try clear hfz22_0
                        try clear hfz22_1
                        try clear hfz22_2
                        try clear hfz22_3
                        try clear hfz23_0
                        try clear hfz23_1
                        try clear hfz23_2
                        try clear hfz23_3
                        try clear hfz25_0
                        try clear hfz25_1
                        try clear hfz25_2
                        try clear hfz25_3
                        try clear hfz5_0
                        try clear hfz5_1
                        try clear hfz5_2
                        try clear hfz5_3
                        try clear hfz8_0
                        try clear hfz8_1
                        try clear hfz8_2
                        try clear hfz8_3
                        try clear hx138_0
                        try clear hx139_0
                        try clear p138
                        try clear p139
                        try clear p2
                        try clear p6
                        try clear q138
                        try clear q139
                        obtain ⟨x6_4, rfl, HA, HK4, BK137, HB⟩ := hrel
                        cases gk with
                        | zero => exact absurd HA.out (by simp [messuageref03_Check.l2])
                        | succ k4 =>
                          have H := HA.out
                          clear HA
                          simp only [messuageref03_Check.l2] at H
                          by_cases c26 : x6_4 < a0_0
                          · rw [if_pos c26] at H
                            have c26b0 : decide (x6_4 < a0_0) = true := decide_eq_true c26
                            clear c26
                            by_cases c27 : 0 ≤ x6_4
                            · rw [if_pos c27] at H
                              have c27b0 : decide (0 ≤ x6_4) = true := decide_eq_true c27
                              clear c27
                              by_cases c28 : x6_4 < (l0_3.length : Int)
                              · rw [if_pos c28] at H
                                have c28b0 : decide (x6_4 < (l0_3.length : Int)) = true := decide_eq_true c28
                                clear c28
                                by_cases c29 : ((rd_L1 l0_3 x6_4).length : Int) = a0_0
                                · rw [if_pos c29] at H
                                  have c29b0 : (((rd_L1 l0_3 x6_4).length : Int) == a0_0) = true := beq_iff_eq.mpr c29
                                  have c29b1 : (((rd_L1 l0_3 x6_4).length : Int) != a0_0) = false := bne_eq_false_iff_eq.mpr c29
                                  clear c29
                                  have H' := Aside0.mk H
                                  clear H
                                  have hcz30_0 : wr.cell? ⟨gb137, 0, none⟩ = some (.int .i64 a0_0) := (blk_cell BK137.out 0).trans rfl
                                  have hcz30_1 : wr.cell? ⟨gb137, 1, none⟩ = some (.int .i64 a0_1) := (blk_cell BK137.out 1).trans rfl
                                  have hcz30_2 : wr.cell? ⟨gb137, 2, none⟩ = some (.slice A0_2 l0_2.length c0_2) := (blk_cell BK137.out 2).trans rfl
                                  have hcz30_3 : wr.cell? ⟨gb137, 3, none⟩ = some (.slice A0_3 l0_3.length c0_3) := (blk_cell BK137.out 3).trans rfl
                                  have hfz30_0 := blk_frozen BK137.out 0
                                  have hfz30_1 := blk_frozen BK137.out 1
                                  have hfz30_2 := blk_frozen BK137.out 2
                                  have hfz30_3 := blk_frozen BK137.out 3
                                  have p140 : 0 ≤ (x6_4 : Int) := of_decide_eq_true (by first | (with_reducible assumption) | assumption)
                                  have q140 : x6_4 < (l0_3.length : Int) := of_decide_eq_true (by first | (with_reducible assumption) | assumption)
                                  obtain ⟨ad140, A140_0, c140_0, e140, hx140_0, hl140_0, hi140_0⟩ := at_L1 HR0_3.out x6_4 p140 q140
                                  cases e140
                                  replace hx140_0 := (HB.out.cell (World.block_lt_of_cell? w _ hx140_0)).trans hx140_0
                                  have HR140_0 := Aside0.mk hi140_0
                                  have HC140_0 := Aside0.mk hl140_0
                                  clear hi140_0 hl140_0
                                  replace p140 := eq_true p140
                                  replace q140 := eq_true q140
                                  go_wp2
                                  repeat (go_quiet (fail); try go_wp2)
                                  go_roundg k4
                                  case measure => have := HK1.out; have := HJ5.out; have := HK3.out; have := HK4.out; omega
                                  case rel => exact ⟨(wrap64 (x6_4 + 1)), (by first | rfl | (simp; done) | (simp [*]; done)), H', ⟨by have := HK1.out; have := HJ5.out; have := HK3.out; have := HK4.out; omega⟩, ⟨by (with_reducible repeat (first | refine blk_drewN ?_ _ | refine blk_drew ?_ | refine blk_alloc ?_ _)); exact BK137.out⟩, ⟨by repeat (first | (with_reducible first | exact HB.out | apply below_alloc | apply pw_below_drewN | apply below_drew1 | refine below_set ?_ GE137.out) | exact HB.out)⟩⟩
                                · rw [if_neg c29] at H
                                  have c29b0 : (((rd_L1 l0_3 x6_4).length : Int) == a0_0) = false := beq_eq_false_iff_ne.mpr c29
                                  have c29b1 : (((rd_L1 l0_3 x6_4).length : Int) != a0_0) = true := bne_iff_ne.mpr c29
                                  obtain rfl := Option.some.inj H
                                  have hcz31_0 : wr.cell? ⟨gb137, 0, none⟩ = some (.int .i64 a0_0) := (blk_cell BK137.out 0).trans rfl
                                  have hcz31_1 : wr.cell? ⟨gb137, 1, none⟩ = some (.int .i64 a0_1) := (blk_cell BK137.out 1).trans rfl
                                  have hcz31_2 : wr.cell? ⟨gb137, 2, none⟩ = some (.slice A0_2 l0_2.length c0_2) := (blk_cell BK137.out 2).trans rfl
                                  have hcz31_3 : wr.cell? ⟨gb137, 3, none⟩ = some (.slice A0_3 l0_3.length c0_3) := (blk_cell BK137.out 3).trans rfl
                                  have hfz31_0 := blk_frozen BK137.out 0
                                  have hfz31_1 := blk_frozen BK137.out 1
                                  have hfz31_2 := blk_frozen BK137.out 2
                                  have hfz31_3 := blk_frozen BK137.out 3
                                  have p140 : 0 ≤ (x6_4 : Int) := of_decide_eq_true (by first | (with_reducible assumption) | assumption)
                                  have q140 : x6_4 < (l0_3.length : Int) := of_decide_eq_true (by first | (with_reducible assumption) | assumption)
                                  obtain ⟨ad140, A140_0, c140_0, e140, hx140_0, hl140_0, hi140_0⟩ := at_L1 HR0_3.out x6_4 p140 q140
                                  cases e140
                                  replace hx140_0 := (HB.out.cell (World.block_lt_of_cell? w _ hx140_0)).trans hx140_0
                                  have HR140_0 := Aside0.mk hi140_0
                                  have HC140_0 := Aside0.mk hl140_0
                                  clear hi140_0 hl140_0
                                  replace p140 := eq_true p140
                                  replace q140 := eq_true q140
                                  go_wp2
                                  repeat (go_quiet (fail); try go_wp2)
                                  go_ret
                                  exact ⟨by first | rfl | (simp [errW_none, errW_some] <;> rfl) | (simp [*, errW_none, errW_some] <;> rfl), by repeat (first | (with_reducible first | exact HB.out | apply below_alloc | apply pw_below_drewN | apply below_drew1 | refine below_set ?_ GE137.out) | exact HB.out)⟩
                              · rw [if_neg c28] at H
                                exact absurd H (by simp)
                            · rw [if_neg c27] at H
                              exact absurd H (by simp)
                          · rw [if_neg c26] at H
                            have c26b0 : decide (x6_4 < a0_0) = false := decide_eq_false c26
                            clear c26
                            have H' := Aside0.mk H
                            clear H
                            have hcz32_0 : wr.cell? ⟨gb137, 0, none⟩ = some (.int .i64 a0_0) := (blk_cell BK137.out 0).trans rfl
                            have hcz32_1 : wr.cell? ⟨gb137, 1, none⟩ = some (.int .i64 a0_1) := (blk_cell BK137.out 1).trans rfl
                            have hcz32_2 : wr.cell? ⟨gb137, 2, none⟩ = some (.slice A0_2 l0_2.length c0_2) := (blk_cell BK137.out 2).trans rfl
                            have hcz32_3 : wr.cell? ⟨gb137, 3, none⟩ = some (.slice A0_3 l0_3.length c0_3) := (blk_cell BK137.out 3).trans rfl
                            have hfz32_0 := blk_frozen BK137.out 0
                            have hfz32_1 := blk_frozen BK137.out 1
                            have hfz32_2 := blk_frozen BK137.out 2
                            have hfz32_3 := blk_frozen BK137.out 3
                            go_wp2
                            repeat (go_quiet (fail); try go_wp2)
                            go_loopg [7] k4 (fun kq v7 w' => ∃ (x7_5 : Int), v7 = .int .i64 x7_5 ∧ Aside0 (messuageref03_Check.l3 kq x7_5 a0_0 a0_1 l0_2 l0_3 = some r) ∧ Aside0 (kq ≤ k4) ∧ Aside0 (w'.heap[gb137]? = some (.cells #[.int .i64 a0_0, .int .i64 a0_1, (.slice A0_2 l0_2.length c0_2), (.slice A0_3 l0_3.length c0_3)] 25 (0, 0))) ∧ Aside0 (Below w.heap.size w w'))
                            case atStart => exact ⟨(0), (by first | rfl | (simp; done) | (simp [*]; done)), H', ⟨Nat.le_refl _⟩, ⟨by (with_reducible repeat (first | refine blk_drewN ?_ _ | refine blk_drew ?_ | refine blk_alloc ?_ _)); exact BK137.out⟩, ⟨by repeat (first | (with_reducible first | exact HB.out | apply below_alloc | apply pw_below_drewN | apply below_drew1 | refine below_set ?_ GE137.out) | exact HB.out)⟩⟩
                            case round =>
                              clear H'
                              try clear c1
                              try clear p1
                              try clear q1
                              try clear hx1
                              try clear c2
                              try clear p2
                              try clear c3
                              try clear c3b0
                              try clear c4
                              try clear p6
                              try clear c7
                              try clear c7b0
                              try clear c9
                              try clear c9b0
                              try clear c11
                              try clear c12
                              try clear c12b0
                              try clear c12b1
                              try clear p13
                              try clear q13
                              try clear hx13
                              try clear c14
                              try clear p14
                              try clear q14
                              try clear hx14
                              try clear c16
                              try clear c17
                              try clear c17b0
                              try clear c18
                              try clear c18b0
                              try clear c19
                              try clear c19b0
                              try clear c21
                              try clear c21b0
                              try clear c24
                              try clear c24b0
                              try clear c24b1
                              try clear c26
                              try clear c26b0
                              try clear c27
                              try clear c27b0
                              try clear c28
                              try clear c28b0
                              try clear c29
                              try clear c29b0
                              try clear c29b1
                              try clear hcz10_0
                              try clear hcz10_1
                              try clear hcz10_2
                              try clear hcz10_3
                              try clear hcz13_0
                              try clear hcz13_1
                              try clear hcz13_2
                              try clear hcz13_3
                              try clear hcz14_0
                              try clear hcz14_1
                              try clear hcz14_2
                              try clear hcz14_3
                              try clear hcz15_0
                              try clear hcz15_1
                              try clear hcz15_2
                              try clear hcz15_3
                              try clear hcz20_0
                              try clear hcz20_1
                              try clear hcz20_2
                              try clear hcz20_3
                              try clear hcz22_0
                              try clear hcz22_1
                              try clear hcz22_2
                              try clear hcz22_3
                              try clear hcz23_0
                              try clear hcz23_1
                              try clear hcz23_2
                              try clear hcz23_3
                              try clear hcz25_0
                              try clear hcz25_1
                              try clear hcz25_2
                              try clear hcz25_3
                              try clear hcz30_0
                              try clear hcz30_1
                              try clear hcz30_2
                              try clear hcz30_3
                              try clear hcz31_0
                              try clear hcz31_1
                              try clear hcz31_2
                              try clear hcz31_3
                              try clear hcz32_0
                              try clear hcz32_1
                              try clear hcz32_2
                              try clear hcz32_3
                              try clear hcz5_0
                              try clear hcz5_1
                              try clear hcz5_2
                              try clear hcz5_3
                              try clear hcz8_0
                              try clear hcz8_1
                              try clear hcz8_2
                              try clear hcz8_3
                              try clear hfz10_0
                              try clear hfz10_1
                              try clear hfz10_2
                              try clear hfz10_3
                              try clear hfz13_0
                              try clear hfz13_1
                              try clear hfz13_2
                              try clear hfz13_3
                              try clear hfz14_0
                              try clear hfz14_1
                              try clear hfz14_2
                              try clear hfz14_3
                              try clear hfz15_0
                              try clear hfz15_1
                              try clear hfz15_2
                              try clear hfz15_3
                              try clear hfz20_0
                              try clear hfz20_1
                              try clear hfz20_2
                              try clear hfz20_3
                              try clear hfz22_0
                              try clear hfz22_1
                              try clear hfz22_2
                              try clear hfz22_3
                              try clear hfz23_0
                              try clear hfz23_1
                              try clear hfz23_2
                              try clear hfz23_3
                              try clear hfz25_0
                              try clear hfz25_1
                              try clear hfz25_2
                              try clear hfz25_3
                              try clear hfz30_0
                              try clear hfz30_1
                              try clear hfz30_2
                              try clear hfz30_3
                              try clear hfz31_0
                              try clear hfz31_1
                              try clear hfz31_2
                              try clear hfz31_3
                              try clear hfz32_0
                              try clear hfz32_1
                              try clear hfz32_2
                              try clear hfz32_3
                              try clear hfz5_0
                              try clear hfz5_1
                              try clear hfz5_2
                              try clear hfz5_3
                              try clear hfz8_0
                              try clear hfz8_1
                              try clear hfz8_2
                              try clear hfz8_3
                              try clear hx138_0
                              try clear hx139_0
                              try clear hx140_0
                              try clear p1
                              try clear p13
                              try clear p138
                              try clear p139
                              try clear p140
                              try clear p2
                              try clear p6
                              try clear q1
                              try clear q13
                              try clear q138
                              try clear q139
                              try clear q140
                              obtain ⟨x7_5, rfl, HA, HK5, BK137, HB⟩ := hrel
                              cases gk with
                              | zero => exact absurd HA.out (by simp [messuageref03_Check.l3])
                              | succ k5 =>
                                have H := HA.out
                                clear HA
                                simp only [messuageref03_Check.l3] at H
                                by_cases c33 : x7_5 < a0_0
                                · rw [if_pos c33] at H
                                  have c33b0 : decide (x7_5 < a0_0) = true := decide_eq_true c33
                                  clear c33
                                  have H' := Aside0.mk H
                                  clear H
                                  have hcz34_0 : wr.cell? ⟨gb137, 0, none⟩ = some (.int .i64 a0_0) := (blk_cell BK137.out 0).trans rfl
                                  have hcz34_1 : wr.cell? ⟨gb137, 1, none⟩ = some (.int .i64 a0_1) := (blk_cell BK137.out 1).trans rfl
                                  have hcz34_2 : wr.cell? ⟨gb137, 2, none⟩ = some (.slice A0_2 l0_2.length c0_2) := (blk_cell BK137.out 2).trans rfl
                                  have hcz34_3 : wr.cell? ⟨gb137, 3, none⟩ = some (.slice A0_3 l0_3.length c0_3) := (blk_cell BK137.out 3).trans rfl
                                  have hfz34_0 := blk_frozen BK137.out 0
                                  have hfz34_1 := blk_frozen BK137.out 1
                                  have hfz34_2 := blk_frozen BK137.out 2
                                  have hfz34_3 := blk_frozen BK137.out 3
                                  go_wp2
                                  repeat (go_quiet (fail); try go_wp2)
                                  go_loopg [8] k5 (fun kq v8 w' => ∃ (x8_6 : Int), v8 = .int .i64 x8_6 ∧ Aside0 (messuageref03_Check.l4 kq x7_5 x8_6 a0_0 a0_1 l0_2 l0_3 = some r) ∧ Aside0 (kq ≤ k5) ∧ Aside0 (w'.heap[gb137]? = some (.cells #[.int .i64 a0_0, .int .i64 a0_1, (.slice A0_2 l0_2.length c0_2), (.slice A0_3 l0_3.length c0_3)] 25 (0, 0))) ∧ Aside0 (Below w.heap.size w w'))
                                  case atStart => exact ⟨(0), (by first | rfl | (simp; done) | (simp [*]; done)), H', ⟨Nat.le_refl _⟩, ⟨by (with_reducible repeat (first | refine blk_drewN ?_ _ | refine blk_drew ?_ | refine blk_alloc ?_ _)); exact BK137.out⟩, ⟨by repeat (first | (with_reducible first | exact HB.out | apply below_alloc | apply pw_below_drewN | apply below_drew1 | refine below_set ?_ GE137.out) | exact HB.out)⟩⟩
                                  case round =>
                                    clear H'
                                    try clear c1
                                    try clear p1
                                    try clear q1
                                    try clear hx1
                                    try clear c2
                                    try clear p2
                                    try clear c3
                                    try clear c3b0
                                    try clear c4
                                    try clear p6
                                    try clear c7
                                    try clear c7b0
                                    try clear c9
                                    try clear c9b0
                                    try clear c11
                                    try clear c12
                                    try clear c12b0
                                    try clear c12b1
                                    try clear p13
                                    try clear q13
                                    try clear hx13
                                    try clear c14
                                    try clear p14
                                    try clear q14
                                    try clear hx14
                                    try clear c16
                                    try clear c17
                                    try clear c17b0
                                    try clear c18
                                    try clear c18b0
                                    try clear c19
                                    try clear c19b0
                                    try clear c21
                                    try clear c21b0
                                    try clear c24
                                    try clear c24b0
                                    try clear c24b1
                                    try clear c26
                                    try clear c26b0
                                    try clear c27
                                    try clear c27b0
                                    try clear c28
                                    try clear c28b0
                                    try clear c29
                                    try clear c29b0
                                    try clear c29b1
                                    try clear c33
                                    try clear c33b0
                                    try clear hcz10_0
                                    try clear hcz10_1
                                    try clear hcz10_2
                                    try clear hcz10_3
                                    try clear hcz13_0
                                    try clear hcz13_1
                                    try clear hcz13_2
                                    try clear hcz13_3
                                    try clear hcz14_0
                                    try clear hcz14_1
                                    try clear hcz14_2
                                    try clear hcz14_3
                                    try clear hcz15_0
                                    try clear hcz15_1
                                    try clear hcz15_2
                                    try clear hcz15_3
                                    try clear hcz20_0
                                    try clear hcz20_1
                                    try clear hcz20_2
                                    try clear hcz20_3
                                    try clear hcz22_0
                                    try clear hcz22_1
                                    try clear hcz22_2
                                    try clear hcz22_3
                                    try clear hcz23_0
                                    try clear hcz23_1
                                    try clear hcz23_2
                                    try clear hcz23_3
                                    try clear hcz25_0
                                    try clear hcz25_1
                                    try clear hcz25_2
                                    try clear hcz25_3
                                    try clear hcz30_0
                                    try clear hcz30_1
                                    try clear hcz30_2
                                    try clear hcz30_3
                                    try clear hcz31_0
                                    try clear hcz31_1
                                    try clear hcz31_2
                                    try clear hcz31_3
                                    try clear hcz32_0
                                    try clear hcz32_1
                                    try clear hcz32_2
                                    try clear hcz32_3
                                    try clear hcz34_0
                                    try clear hcz34_1
                                    try clear hcz34_2
                                    try clear hcz34_3
                                    try clear hcz5_0
                                    try clear hcz5_1
                                    try clear hcz5_2
                                    try clear hcz5_3
                                    try clear hcz8_0
                                    try clear hcz8_1
                                    try clear hcz8_2
                                    try clear hcz8_3
                                    try clear hfz10_0
                                    try clear hfz10_1
                                    try clear hfz10_2
                                    try clear hfz10_3
                                    try clear hfz13_0
                                    try clear hfz13_1
                                    try clear hfz13_2
                                    try clear hfz13_3
                                    try clear hfz14_0
                                    try clear hfz14_1
                                    try clear hfz14_2
                                    try clear hfz14_3
                                    try clear hfz15_0
                                    try clear hfz15_1
                                    try clear hfz15_2
                                    try clear hfz15_3
                                    try clear hfz20_0
                                    try clear hfz20_1
                                    try clear hfz20_2
                                    try clear hfz20_3
                                    try clear hfz22_0
                                    try clear hfz22_1
                                    try clear hfz22_2
                                    try clear hfz22_3
                                    try clear hfz23_0
                                    try clear hfz23_1
                                    try clear hfz23_2
                                    try clear hfz23_3
                                    try clear hfz25_0
                                    try clear hfz25_1
                                    try clear hfz25_2
                                    try clear hfz25_3
                                    try clear hfz30_0
                                    try clear hfz30_1
                                    try clear hfz30_2
                                    try clear hfz30_3
                                    try clear hfz31_0
                                    try clear hfz31_1
                                    try clear hfz31_2
                                    try clear hfz31_3
                                    try clear hfz32_0
                                    try clear hfz32_1
                                    try clear hfz32_2
                                    try clear hfz32_3
                                    try clear hfz34_0
                                    try clear hfz34_1
                                    try clear hfz34_2
                                    try clear hfz34_3
                                    try clear hfz5_0
                                    try clear hfz5_1
                                    try clear hfz5_2
                                    try clear hfz5_3
                                    try clear hfz8_0
                                    try clear hfz8_1
                                    try clear hfz8_2
                                    try clear hfz8_3
                                    try clear hx138_0
                                    try clear hx139_0
                                    try clear hx140_0
                                    try clear p1
                                    try clear p13
                                    try clear p138
                                    try clear p139
                                    try clear p14
                                    try clear p140
                                    try clear p2
                                    try clear p6
                                    try clear q1
                                    try clear q13
                                    try clear q138
                                    try clear q139
                                    try clear q14
                                    try clear q140
                                    obtain ⟨x8_6, rfl, HA, HK6, BK137, HB⟩ := hrel
                                    cases gk with
                                    | zero => exact absurd HA.out (by simp [messuageref03_Check.l4])
                                    | succ k6 =>
                                      have H := HA.out
                                      clear HA
                                      simp only [messuageref03_Check.l4] at H
                                      by_cases c35 : x8_6 < a0_0
                                      · rw [if_pos c35] at H
                                        have c35b0 : decide (x8_6 < a0_0) = true := decide_eq_true c35
                                        clear c35
                                        by_cases c36 : 0 ≤ x7_5
                                        · rw [if_pos c36] at H
                                          have c36b0 : decide (0 ≤ x7_5) = true := decide_eq_true c36
                                          clear c36
                                          by_cases c37 : x7_5 < (l0_3.length : Int)
                                          · rw [if_pos c37] at H
                                            have c37b0 : decide (x7_5 < (l0_3.length : Int)) = true := decide_eq_true c37
                                            clear c37
                                            by_cases c38 : 0 ≤ x8_6
                                            · rw [if_pos c38] at H
                                              have c38b0 : decide (0 ≤ x8_6) = true := decide_eq_true c38
                                              clear c38
                                              by_cases c39 : x8_6 < ((rd_L1 l0_3 x7_5).length : Int)
                                              · rw [if_pos c39] at H
                                                have c39b0 : decide (x8_6 < ((rd_L1 l0_3 x7_5).length : Int)) = true := decide_eq_true c39
                                                clear c39
                                                by_cases c40 : x7_5 = x8_6
                                                · rw [if_pos c40] at H
                                                  have c40b0 : (x7_5 == x8_6) = true := beq_iff_eq.mpr c40
                                                  have c40b1 : (x7_5 != x8_6) = false := bne_eq_false_iff_eq.mpr c40
                                                  clear c40
                                                  by_cases c41 : (rd (rd_L1 l0_3 x7_5) x8_6) = 10
                                                  · rw [if_pos c41] at H
                                                    have c41b0 : ((rd (rd_L1 l0_3 x7_5) x8_6) == 10) = true := beq_iff_eq.mpr c41
                                                    have c41b1 : ((rd (rd_L1 l0_3 x7_5) x8_6) != 10) = false := bne_eq_false_iff_eq.mpr c41
                                                    clear c41
                                                    have H' := Aside0.mk H
                                                    clear H
                                                    have hcz42_0 : wr.cell? ⟨gb137, 0, none⟩ = some (.int .i64 a0_0) := (blk_cell BK137.out 0).trans rfl
                                                    have hcz42_1 : wr.cell? ⟨gb137, 1, none⟩ = some (.int .i64 a0_1) := (blk_cell BK137.out 1).trans rfl
                                                    have hcz42_2 : wr.cell? ⟨gb137, 2, none⟩ = some (.slice A0_2 l0_2.length c0_2) := (blk_cell BK137.out 2).trans rfl
                                                    have hcz42_3 : wr.cell? ⟨gb137, 3, none⟩ = some (.slice A0_3 l0_3.length c0_3) := (blk_cell BK137.out 3).trans rfl
                                                    have hfz42_0 := blk_frozen BK137.out 0
                                                    have hfz42_1 := blk_frozen BK137.out 1
                                                    have hfz42_2 := blk_frozen BK137.out 2
                                                    have hfz42_3 := blk_frozen BK137.out 3
                                                    have p141 : 0 ≤ (x7_5 : Int) := of_decide_eq_true (by first | (with_reducible assumption) | assumption)
                                                    have q141 : x7_5 < (l0_3.length : Int) := of_decide_eq_true (by first | (with_reducible assumption) | assumption)
                                                    obtain ⟨ad141, A141_0, c141_0, e141, hx141_0, hl141_0, hi141_0⟩ := at_L1 HR0_3.out x7_5 p141 q141
                                                    cases e141
                                                    replace hx141_0 := (HB.out.cell (World.block_lt_of_cell? w _ hx141_0)).trans hx141_0
                                                    have HR141_0 := Aside0.mk hi141_0
                                                    have HC141_0 := Aside0.mk hl141_0
                                                    clear hi141_0 hl141_0
                                                    replace p141 := eq_true p141
                                                    replace q141 := eq_true q141
                                                    have p142 : 0 ≤ (x8_6 : Int) := of_decide_eq_true (by first | (with_reducible assumption) | assumption)
                                                    have q142 : x8_6 < ((rd_L1 l0_3 x7_5).length : Int) := of_decide_eq_true (by first | (with_reducible assumption) | assumption)
                                                    obtain ⟨ad142, e142, hx142_0⟩ := Kd.at_int HR141_0.out x8_6 p142 q142
                                                    cases e142
                                                    replace hx142_0 := (HB.out.cell (World.block_lt_of_cell? w _ hx142_0)).trans hx142_0
                                                    replace p142 := eq_true p142
                                                    replace q142 := eq_true q142
                                                    go_wp2
                                                    repeat (go_quiet (fail); try go_wp2)
                                                    go_roundg k6
                                                    case measure => have := HK1.out; have := HJ5.out; have := HK3.out; have := HK4.out; have := HK5.out; have := HK6.out; omega
                                                    case rel => exact ⟨(wrap64 (x8_6 + 1)), (by first | rfl | (simp; done) | (simp [*]; done)), H', ⟨by have := HK1.out; have := HJ5.out; have := HK3.out; have := HK4.out; have := HK5.out; have := HK6.out; omega⟩, ⟨by (with_reducible repeat (first | refine blk_drewN ?_ _ | refine blk_drew ?_ | refine blk_alloc ?_ _)); exact BK137.out⟩, ⟨by repeat (first | (with_reducible first | exact HB.out | apply below_alloc | apply pw_below_drewN | apply below_drew1 | refine below_set ?_ GE137.out) | exact HB.out)⟩⟩
                                                  · rw [if_neg c41] at H
                                                    have c41b0 : ((rd (rd_L1 l0_3 x7_5) x8_6) == 10) = false := beq_eq_false_iff_ne.mpr c41
                                                    have c41b1 : ((rd (rd_L1 l0_3 x7_5) x8_6) != 10) = true := bne_iff_ne.mpr c41
                                                    obtain rfl := Option.some.inj H
                                                    have hcz43_0 : wr.cell? ⟨gb137, 0, none⟩ = some (.int .i64 a0_0) := (blk_cell BK137.out 0).trans rfl
                                                    have hcz43_1 : wr.cell? ⟨gb137, 1, none⟩ = some (.int .i64 a0_1) := (blk_cell BK137.out 1).trans rfl
                                                    have hcz43_2 : wr.cell? ⟨gb137, 2, none⟩ = some (.slice A0_2 l0_2.length c0_2) := (blk_cell BK137.out 2).trans rfl
                                                    have hcz43_3 : wr.cell? ⟨gb137, 3, none⟩ = some (.slice A0_3 l0_3.length c0_3) := (blk_cell BK137.out 3).trans rfl
                                                    have hfz43_0 := blk_frozen BK137.out 0
                                                    have hfz43_1 := blk_frozen BK137.out 1
                                                    have hfz43_2 := blk_frozen BK137.out 2
                                                    have hfz43_3 := blk_frozen BK137.out 3
                                                    have p141 : 0 ≤ (x7_5 : Int) := of_decide_eq_true (by first | (with_reducible assumption) | assumption)
                                                    have q141 : x7_5 < (l0_3.length : Int) := of_decide_eq_true (by first | (with_reducible assumption) | assumption)
                                                    obtain ⟨ad141, A141_0, c141_0, e141, hx141_0, hl141_0, hi141_0⟩ := at_L1 HR0_3.out x7_5 p141 q141
                                                    cases e141
                                                    replace hx141_0 := (HB.out.cell (World.block_lt_of_cell? w _ hx141_0)).trans hx141_0
                                                    have HR141_0 := Aside0.mk hi141_0
                                                    have HC141_0 := Aside0.mk hl141_0
                                                    clear hi141_0 hl141_0
                                                    replace p141 := eq_true p141
                                                    replace q141 := eq_true q141
                                                    have p142 : 0 ≤ (x8_6 : Int) := of_decide_eq_true (by first | (with_reducible assumption) | assumption)
                                                    have q142 : x8_6 < ((rd_L1 l0_3 x7_5).length : Int) := of_decide_eq_true (by first | (with_reducible assumption) | assumption)
                                                    obtain ⟨ad142, e142, hx142_0⟩ := Kd.at_int HR141_0.out x8_6 p142 q142
                                                    cases e142
                                                    replace hx142_0 := (HB.out.cell (World.block_lt_of_cell? w _ hx142_0)).trans hx142_0
                                                    replace p142 := eq_true p142
                                                    replace q142 := eq_true q142
                                                    go_wp2
                                                    repeat (go_quiet (fail); try go_wp2)
                                                    go_ret
                                                    exact ⟨by first | rfl | (simp [errW_none, errW_some] <;> rfl) | (simp [*, errW_none, errW_some] <;> rfl), by repeat (first | (with_reducible first | exact HB.out | apply below_alloc | apply pw_below_drewN | apply below_drew1 | refine below_set ?_ GE137.out) | exact HB.out)⟩
                                                · rw [if_neg c40] at H
                                                  have c40b0 : (x7_5 == x8_6) = false := beq_eq_false_iff_ne.mpr c40
                                                  have c40b1 : (x7_5 != x8_6) = true := bne_iff_ne.mpr c40
                                                  by_cases c44 : (rd (rd_L1 l0_3 x7_5) x8_6) < 11
                                                  · rw [if_pos c44] at H
                                                    have c44b0 : decide ((rd (rd_L1 l0_3 x7_5) x8_6) < 11) = true := decide_eq_true c44
                                                    clear c44
                                                    obtain rfl := Option.some.inj H
                                                    have hcz45_0 : wr.cell? ⟨gb137, 0, none⟩ = some (.int .i64 a0_0) := (blk_cell BK137.out 0).trans rfl
                                                    have hcz45_1 : wr.cell? ⟨gb137, 1, none⟩ = some (.int .i64 a0_1) := (blk_cell BK137.out 1).trans rfl
                                                    have hcz45_2 : wr.cell? ⟨gb137, 2, none⟩ = some (.slice A0_2 l0_2.length c0_2) := (blk_cell BK137.out 2).trans rfl
                                                    have hcz45_3 : wr.cell? ⟨gb137, 3, none⟩ = some (.slice A0_3 l0_3.length c0_3) := (blk_cell BK137.out 3).trans rfl
                                                    have hfz45_0 := blk_frozen BK137.out 0
                                                    have hfz45_1 := blk_frozen BK137.out 1
                                                    have hfz45_2 := blk_frozen BK137.out 2
                                                    have hfz45_3 := blk_frozen BK137.out 3
                                                    have p141 : 0 ≤ (x7_5 : Int) := of_decide_eq_true (by first | (with_reducible assumption) | assumption)
                                                    have q141 : x7_5 < (l0_3.length : Int) := of_decide_eq_true (by first | (with_reducible assumption) | assumption)
                                                    obtain ⟨ad141, A141_0, c141_0, e141, hx141_0, hl141_0, hi141_0⟩ := at_L1 HR0_3.out x7_5 p141 q141
                                                    cases e141
                                                    replace hx141_0 := (HB.out.cell (World.block_lt_of_cell? w _ hx141_0)).trans hx141_0
                                                    have HR141_0 := Aside0.mk hi141_0
                                                    have HC141_0 := Aside0.mk hl141_0
                                                    clear hi141_0 hl141_0
                                                    replace p141 := eq_true p141
                                                    replace q141 := eq_true q141
                                                    have p142 : 0 ≤ (x8_6 : Int) := of_decide_eq_true (by first | (with_reducible assumption) | assumption)
                                                    have q142 : x8_6 < ((rd_L1 l0_3 x7_5).length : Int) := of_decide_eq_true (by first | (with_reducible assumption) | assumption)
                                                    obtain ⟨ad142, e142, hx142_0⟩ := Kd.at_int HR141_0.out x8_6 p142 q142
                                                    cases e142
                                                    replace hx142_0 := (HB.out.cell (World.block_lt_of_cell? w _ hx142_0)).trans hx142_0
                                                    replace p142 := eq_true p142
                                                    replace q142 := eq_true q142
                                                    go_wp2
                                                    repeat (go_quiet (fail); try go_wp2)
                                                    go_ret
                                                    exact ⟨by first | rfl | (simp [errW_none, errW_some] <;> rfl) | (simp [*, errW_none, errW_some] <;> rfl), by repeat (first | (with_reducible first | exact HB.out | apply below_alloc | apply pw_below_drewN | apply below_drew1 | refine below_set ?_ GE137.out) | exact HB.out)⟩
                                                  · rw [if_neg c44] at H
                                                    have c44b0 : decide ((rd (rd_L1 l0_3 x7_5) x8_6) < 11) = false := decide_eq_false c44
                                                    clear c44
                                                    by_cases c46 : (rd (rd_L1 l0_3 x7_5) x8_6) > 255
                                                    · rw [if_pos c46] at H
                                                      have c46b0 : decide (255 < (rd (rd_L1 l0_3 x7_5) x8_6)) = true := decide_eq_true c46
                                                      clear c46
                                                      obtain rfl := Option.some.inj H
                                                      have hcz47_0 : wr.cell? ⟨gb137, 0, none⟩ = some (.int .i64 a0_0) := (blk_cell BK137.out 0).trans rfl
                                                      have hcz47_1 : wr.cell? ⟨gb137, 1, none⟩ = some (.int .i64 a0_1) := (blk_cell BK137.out 1).trans rfl
                                                      have hcz47_2 : wr.cell? ⟨gb137, 2, none⟩ = some (.slice A0_2 l0_2.length c0_2) := (blk_cell BK137.out 2).trans rfl
                                                      have hcz47_3 : wr.cell? ⟨gb137, 3, none⟩ = some (.slice A0_3 l0_3.length c0_3) := (blk_cell BK137.out 3).trans rfl
                                                      have hfz47_0 := blk_frozen BK137.out 0
                                                      have hfz47_1 := blk_frozen BK137.out 1
                                                      have hfz47_2 := blk_frozen BK137.out 2
                                                      have hfz47_3 := blk_frozen BK137.out 3
                                                      have p141 : 0 ≤ (x7_5 : Int) := of_decide_eq_true (by first | (with_reducible assumption) | assumption)
                                                      have q141 : x7_5 < (l0_3.length : Int) := of_decide_eq_true (by first | (with_reducible assumption) | assumption)
                                                      obtain ⟨ad141, A141_0, c141_0, e141, hx141_0, hl141_0, hi141_0⟩ := at_L1 HR0_3.out x7_5 p141 q141
                                                      cases e141
                                                      replace hx141_0 := (HB.out.cell (World.block_lt_of_cell? w _ hx141_0)).trans hx141_0
                                                      have HR141_0 := Aside0.mk hi141_0
                                                      have HC141_0 := Aside0.mk hl141_0
                                                      clear hi141_0 hl141_0
                                                      replace p141 := eq_true p141
                                                      replace q141 := eq_true q141
                                                      have p142 : 0 ≤ (x8_6 : Int) := of_decide_eq_true (by first | (with_reducible assumption) | assumption)
                                                      have q142 : x8_6 < ((rd_L1 l0_3 x7_5).length : Int) := of_decide_eq_true (by first | (with_reducible assumption) | assumption)
                                                      obtain ⟨ad142, e142, hx142_0⟩ := Kd.at_int HR141_0.out x8_6 p142 q142
                                                      cases e142
                                                      replace hx142_0 := (HB.out.cell (World.block_lt_of_cell? w _ hx142_0)).trans hx142_0
                                                      replace p142 := eq_true p142
                                                      replace q142 := eq_true q142
                                                      go_wp2
                                                      repeat (go_quiet (fail); try go_wp2)
                                                      go_ret
                                                      exact ⟨by first | rfl | (simp [errW_none, errW_some] <;> rfl) | (simp [*, errW_none, errW_some] <;> rfl), by repeat (first | (with_reducible first | exact HB.out | apply below_alloc | apply pw_below_drewN | apply below_drew1 | refine below_set ?_ GE137.out) | exact HB.out)⟩
                                                    · rw [if_neg c46] at H
                                                      have c46b0 : decide (255 < (rd (rd_L1 l0_3 x7_5) x8_6)) = false := decide_eq_false c46
                                                      clear c46
                                                      by_cases c48 : x8_6 < (l0_3.length : Int)
                                                      · rw [if_pos c48] at H
                                                        have c48b0 : decide (x8_6 < (l0_3.length : Int)) = true := decide_eq_true c48
                                                        clear c48
                                                        by_cases c49 : x7_5 < ((rd_L1 l0_3 x8_6).length : Int)
                                                        · rw [if_pos c49] at H
                                                          have c49b0 : decide (x7_5 < ((rd_L1 l0_3 x8_6).length : Int)) = true := decide_eq_true c49
                                                          clear c49
                                                          by_cases c50 : (rd (rd_L1 l0_3 x7_5) x8_6) = (rd (rd_L1 l0_3 x8_6) x7_5)
                                                          · rw [if_pos c50] at H
                                                            have c50b0 : ((rd (rd_L1 l0_3 x7_5) x8_6) == (rd (rd_L1 l0_3 x8_6) x7_5)) = true := beq_iff_eq.mpr c50
                                                            have c50b1 : ((rd (rd_L1 l0_3 x7_5) x8_6) != (rd (rd_L1 l0_3 x8_6) x7_5)) = false := bne_eq_false_iff_eq.mpr c50
                                                            clear c50
                                                            have H' := Aside0.mk H
                                                            clear H
                                                            have hcz51_0 : wr.cell? ⟨gb137, 0, none⟩ = some (.int .i64 a0_0) := (blk_cell BK137.out 0).trans rfl
                                                            have hcz51_1 : wr.cell? ⟨gb137, 1, none⟩ = some (.int .i64 a0_1) := (blk_cell BK137.out 1).trans rfl
                                                            have hcz51_2 : wr.cell? ⟨gb137, 2, none⟩ = some (.slice A0_2 l0_2.length c0_2) := (blk_cell BK137.out 2).trans rfl
                                                            have hcz51_3 : wr.cell? ⟨gb137, 3, none⟩ = some (.slice A0_3 l0_3.length c0_3) := (blk_cell BK137.out 3).trans rfl
                                                            have hfz51_0 := blk_frozen BK137.out 0
                                                            have hfz51_1 := blk_frozen BK137.out 1
                                                            have hfz51_2 := blk_frozen BK137.out 2
                                                            have hfz51_3 := blk_frozen BK137.out 3
                                                            have p141 : 0 ≤ (x7_5 : Int) := of_decide_eq_true (by first | (with_reducible assumption) | assumption)
                                                            have q141 : x7_5 < (l0_3.length : Int) := of_decide_eq_true (by first | (with_reducible assumption) | assumption)
                                                            obtain ⟨ad141, A141_0, c141_0, e141, hx141_0, hl141_0, hi141_0⟩ := at_L1 HR0_3.out x7_5 p141 q141
                                                            cases e141
                                                            replace hx141_0 := (HB.out.cell (World.block_lt_of_cell? w _ hx141_0)).trans hx141_0
                                                            have HR141_0 := Aside0.mk hi141_0
                                                            have HC141_0 := Aside0.mk hl141_0
                                                            clear hi141_0 hl141_0
                                                            replace p141 := eq_true p141
                                                            replace q141 := eq_true q141
                                                            have p142 : 0 ≤ (x8_6 : Int) := of_decide_eq_true (by first | (with_reducible assumption) | assumption)
                                                            have q142 : x8_6 < ((rd_L1 l0_3 x7_5).length : Int) := of_decide_eq_true (by first | (with_reducible assumption) | assumption)
                                                            obtain ⟨ad142, e142, hx142_0⟩ := Kd.at_int HR141_0.out x8_6 p142 q142
                                                            cases e142
                                                            replace hx142_0 := (HB.out.cell (World.block_lt_of_cell? w _ hx142_0)).trans hx142_0
                                                            replace p142 := eq_true p142
                                                            replace q142 := eq_true q142
                                                            have p143 : 0 ≤ (x8_6 : Int) := of_decide_eq_true (by first | (with_reducible assumption) | assumption)
                                                            have q143 : x8_6 < (l0_3.length : Int) := of_decide_eq_true (by first | (with_reducible assumption) | assumption)
                                                            obtain ⟨ad143, A143_0, c143_0, e143, hx143_0, hl143_0, hi143_0⟩ := at_L1 HR0_3.out x8_6 p143 q143
                                                            obtain rfl : ad141 = ad143 := (by injection e143)
                                                            replace hx143_0 := (HB.out.cell (World.block_lt_of_cell? w _ hx143_0)).trans hx143_0
                                                            have HR143_0 := Aside0.mk hi143_0
                                                            have HC143_0 := Aside0.mk hl143_0
                                                            clear hi143_0 hl143_0
                                                            replace p143 := eq_true p143
                                                            replace q143 := eq_true q143
                                                            have p144 : 0 ≤ (x7_5 : Int) := of_decide_eq_true (by first | (with_reducible assumption) | assumption)
                                                            have q144 : x7_5 < ((rd_L1 l0_3 x8_6).length : Int) := of_decide_eq_true (by first | (with_reducible assumption) | assumption)
                                                            obtain ⟨ad144, e144, hx144_0⟩ := Kd.at_int HR143_0.out x7_5 p144 q144
                                                            cases e144
                                                            replace hx144_0 := (HB.out.cell (World.block_lt_of_cell? w _ hx144_0)).trans hx144_0
                                                            replace p144 := eq_true p144
                                                            replace q144 := eq_true q144
                                                            go_wp2
                                                            repeat (go_quiet (fail); try go_wp2)
                                                            go_roundg k6
                                                            case measure => have := HK1.out; have := HJ5.out; have := HK3.out; have := HK4.out; have := HK5.out; have := HK6.out; omega
                                                            case rel => exact ⟨(wrap64 (x8_6 + 1)), (by first | rfl | (simp; done) | (simp [*]; done)), H', ⟨by have := HK1.out; have := HJ5.out; have := HK3.out; have := HK4.out; have := HK5.out; have := HK6.out; omega⟩, ⟨by (with_reducible repeat (first | refine blk_drewN ?_ _ | refine blk_drew ?_ | refine blk_alloc ?_ _)); exact BK137.out⟩, ⟨by repeat (first | (with_reducible first | exact HB.out | apply below_alloc | apply pw_below_drewN | apply below_drew1 | refine below_set ?_ GE137.out) | exact HB.out)⟩⟩
                                                          · rw [if_neg c50] at H
                                                            have c50b0 : ((rd (rd_L1 l0_3 x7_5) x8_6) == (rd (rd_L1 l0_3 x8_6) x7_5)) = false := beq_eq_false_iff_ne.mpr c50
                                                            have c50b1 : ((rd (rd_L1 l0_3 x7_5) x8_6) != (rd (rd_L1 l0_3 x8_6) x7_5)) = true := bne_iff_ne.mpr c50
                                                            obtain rfl := Option.some.inj H
                                                            have hcz52_0 : wr.cell? ⟨gb137, 0, none⟩ = some (.int .i64 a0_0) := (blk_cell BK137.out 0).trans rfl
                                                            have hcz52_1 : wr.cell? ⟨gb137, 1, none⟩ = some (.int .i64 a0_1) := (blk_cell BK137.out 1).trans rfl
                                                            have hcz52_2 : wr.cell? ⟨gb137, 2, none⟩ = some (.slice A0_2 l0_2.length c0_2) := (blk_cell BK137.out 2).trans rfl
                                                            have hcz52_3 : wr.cell? ⟨gb137, 3, none⟩ = some (.slice A0_3 l0_3.length c0_3) := (blk_cell BK137.out 3).trans rfl
                                                            have hfz52_0 := blk_frozen BK137.out 0
                                                            have hfz52_1 := blk_frozen BK137.out 1
                                                            have hfz52_2 := blk_frozen BK137.out 2
                                                            have hfz52_3 := blk_frozen BK137.out 3
                                                            have p141 : 0 ≤ (x7_5 : Int) := of_decide_eq_true (by first | (with_reducible assumption) | assumption)
                                                            have q141 : x7_5 < (l0_3.length : Int) := of_decide_eq_true (by first | (with_reducible assumption) | assumption)
                                                            obtain ⟨ad141, A141_0, c141_0, e141, hx141_0, hl141_0, hi141_0⟩ := at_L1 HR0_3.out x7_5 p141 q141
                                                            cases e141
                                                            replace hx141_0 := (HB.out.cell (World.block_lt_of_cell? w _ hx141_0)).trans hx141_0
                                                            have HR141_0 := Aside0.mk hi141_0
                                                            have HC141_0 := Aside0.mk hl141_0
                                                            clear hi141_0 hl141_0
                                                            replace p141 := eq_true p141
                                                            replace q141 := eq_true q141
                                                            have p142 : 0 ≤ (x8_6 : Int) := of_decide_eq_true (by first | (with_reducible assumption) | assumption)
                                                            have q142 : x8_6 < ((rd_L1 l0_3 x7_5).length : Int) := of_decide_eq_true (by first | (with_reducible assumption) | assumption)
                                                            obtain ⟨ad142, e142, hx142_0⟩ := Kd.at_int HR141_0.out x8_6 p142 q142
                                                            cases e142
                                                            replace hx142_0 := (HB.out.cell (World.block_lt_of_cell? w _ hx142_0)).trans hx142_0
                                                            replace p142 := eq_true p142
                                                            replace q142 := eq_true q142
                                                            have p143 : 0 ≤ (x8_6 : Int) := of_decide_eq_true (by first | (with_reducible assumption) | assumption)
                                                            have q143 : x8_6 < (l0_3.length : Int) := of_decide_eq_true (by first | (with_reducible assumption) | assumption)
                                                            obtain ⟨ad143, A143_0, c143_0, e143, hx143_0, hl143_0, hi143_0⟩ := at_L1 HR0_3.out x8_6 p143 q143
                                                            obtain rfl : ad141 = ad143 := (by injection e143)
                                                            replace hx143_0 := (HB.out.cell (World.block_lt_of_cell? w _ hx143_0)).trans hx143_0
                                                            have HR143_0 := Aside0.mk hi143_0
                                                            have HC143_0 := Aside0.mk hl143_0
                                                            clear hi143_0 hl143_0
                                                            replace p143 := eq_true p143
                                                            replace q143 := eq_true q143
                                                            have p144 : 0 ≤ (x7_5 : Int) := of_decide_eq_true (by first | (with_reducible assumption) | assumption)
                                                            have q144 : x7_5 < ((rd_L1 l0_3 x8_6).length : Int) := of_decide_eq_true (by first | (with_reducible assumption) | assumption)
                                                            obtain ⟨ad144, e144, hx144_0⟩ := Kd.at_int HR143_0.out x7_5 p144 q144
                                                            cases e144
                                                            replace hx144_0 := (HB.out.cell (World.block_lt_of_cell? w _ hx144_0)).trans hx144_0
                                                            replace p144 := eq_true p144
                                                            replace q144 := eq_true q144
                                                            go_wp2
                                                            repeat (go_quiet (fail); try go_wp2)
                                                            go_ret
                                                            exact ⟨by first | rfl | (simp [errW_none, errW_some] <;> rfl) | (simp [*, errW_none, errW_some] <;> rfl), by repeat (first | (with_reducible first | exact HB.out | apply below_alloc | apply pw_below_drewN | apply below_drew1 | refine below_set ?_ GE137.out) | exact HB.out)⟩
                                                        · rw [if_neg c49] at H
                                                          exact absurd H (by simp)
                                                      · rw [if_neg c48] at H
                                                        exact absurd H (by simp)
                                              · rw [if_neg c39] at H
                                                exact absurd H (by simp)
                                            · rw [if_neg c38] at H
                                              exact absurd H (by simp)
                                          · rw [if_neg c37] at H
                                            exact absurd H (by simp)
                                        · rw [if_neg c36] at H
                                          exact absurd H (by simp)
                                      · rw [if_neg c35] at H
                                        have c35b0 : decide (x8_6 < a0_0) = false := decide_eq_false c35
                                        clear c35
                                        have H' := Aside0.mk H
                                        clear H
                                        have hcz53_0 : wr.cell? ⟨gb137, 0, none⟩ = some (.int .i64 a0_0) := (blk_cell BK137.out 0).trans rfl
                                        have hcz53_1 : wr.cell? ⟨gb137, 1, none⟩ = some (.int .i64 a0_1) := (blk_cell BK137.out 1).trans rfl
                                        have hcz53_2 : wr.cell? ⟨gb137, 2, none⟩ = some (.slice A0_2 l0_2.length c0_2) := (blk_cell BK137.out 2).trans rfl
                                        have hcz53_3 : wr.cell? ⟨gb137, 3, none⟩ = some (.slice A0_3 l0_3.length c0_3) := (blk_cell BK137.out 3).trans rfl
                                        have hfz53_0 := blk_frozen BK137.out 0
                                        have hfz53_1 := blk_frozen BK137.out 1
                                        have hfz53_2 := blk_frozen BK137.out 2
                                        have hfz53_3 := blk_frozen BK137.out 3
                                        go_wp2
                                        repeat (go_quiet (fail); try go_wp2)
                                        go_roundg k6
                                        case measure => have := HK1.out; have := HJ5.out; have := HK3.out; have := HK4.out; have := HK5.out; have := HK6.out; omega
                                        case rel => exact ⟨(wrap64 (x7_5 + 1)), (by first | rfl | (simp; done) | (simp [*]; done)), H', ⟨by have := HK1.out; have := HJ5.out; have := HK3.out; have := HK4.out; have := HK5.out; have := HK6.out; omega⟩, ⟨by (with_reducible repeat (first | refine blk_drewN ?_ _ | refine blk_drew ?_ | refine blk_alloc ?_ _)); exact BK137.out⟩, ⟨by repeat (first | (with_reducible first | exact HB.out | apply below_alloc | apply pw_below_drewN | apply below_drew1 | refine below_set ?_ GE137.out) | exact HB.out)⟩⟩
                                · rw [if_neg c33] at H
                                  have c33b0 : decide (x7_5 < a0_0) = false := decide_eq_false c33
                                  clear c33
                                  obtain rfl := Option.some.inj H
                                  have hcz54_0 : wr.cell? ⟨gb137, 0, none⟩ = some (.int .i64 a0_0) := (blk_cell BK137.out 0).trans rfl
                                  have hcz54_1 : wr.cell? ⟨gb137, 1, none⟩ = some (.int .i64 a0_1) := (blk_cell BK137.out 1).trans rfl
                                  have hcz54_2 : wr.cell? ⟨gb137, 2, none⟩ = some (.slice A0_2 l0_2.length c0_2) := (blk_cell BK137.out 2).trans rfl
                                  have hcz54_3 : wr.cell? ⟨gb137, 3, none⟩ = some (.slice A0_3 l0_3.length c0_3) := (blk_cell BK137.out 3).trans rfl
                                  have hfz54_0 := blk_frozen BK137.out 0
                                  have hfz54_1 := blk_frozen BK137.out 1
                                  have hfz54_2 := blk_frozen BK137.out 2
                                  have hfz54_3 := blk_frozen BK137.out 3
                                  go_wp2
                                  repeat (go_quiet (fail); try go_wp2)
                                  go_ret
                                  exact ⟨by first | rfl | (simp [errW_none, errW_some] <;> rfl) | (simp [*, errW_none, errW_some] <;> rfl), by repeat (first | (with_reducible first | exact HB.out | apply below_alloc | apply pw_below_drewN | apply below_drew1 | refine below_set ?_ GE137.out) | exact HB.out)⟩
                    · rw [if_neg c24] at H
                      have c24b0 : ((l0_3.length : Int) == a0_0) = false := beq_eq_false_iff_ne.mpr c24
                      have c24b1 : ((l0_3.length : Int) != a0_0) = true := bne_iff_ne.mpr c24
                      obtain rfl := Option.some.inj H
                      have hcz55_0 : wr.cell? ⟨gb137, 0, none⟩ = some (.int .i64 a0_0) := (blk_cell BK137.out 0).trans rfl
                      have hcz55_1 : wr.cell? ⟨gb137, 1, none⟩ = some (.int .i64 a0_1) := (blk_cell BK137.out 1).trans rfl
                      have hcz55_2 : wr.cell? ⟨gb137, 2, none⟩ = some (.slice A0_2 l0_2.length c0_2) := (blk_cell BK137.out 2).trans rfl
                      have hcz55_3 : wr.cell? ⟨gb137, 3, none⟩ = some (.slice A0_3 l0_3.length c0_3) := (blk_cell BK137.out 3).trans rfl
                      have hfz55_0 := blk_frozen BK137.out 0
                      have hfz55_1 := blk_frozen BK137.out 1
                      have hfz55_2 := blk_frozen BK137.out 2
                      have hfz55_3 := blk_frozen BK137.out 3
                      go_wp2
                      repeat (go_quiet (fail); try go_wp2)
                      go_ret
                      exact ⟨by first | rfl | (simp [errW_none, errW_some] <;> rfl) | (simp [*, errW_none, errW_some] <;> rfl), by repeat (first | (with_reducible first | exact HB.out | apply below_alloc | apply pw_below_drewN | apply below_drew1 | refine below_set ?_ GE137.out) | exact HB.out)⟩

end Go.Proofs.Ytffmhpfdfcpniaa.PH
