import Derived.Test.YtahagjdnjggdaaaT2
namespace Go.Proofs.Ytahagjdnjggdaaa.T
open Go.RowKit Go.Proofs.YtahagjdnjggdaaaW.PrintWords Go.Proofs.YtahagjdnjggdaaaW.PrintLast Go.Proofs.YtahagjdnjggdaaaW.PrintMore
attribute [local go_sem] max2_int min2_int max_two min_two max_three min_three max_four min_four   -- for this text's walks alone
set_option linter.unusedVariables false
set_option linter.unusedSimpArgs false

/-! ### messuageref27_Write: function 9 -/
mutual
def messuageref27_Write.l0 : Nat → List (S45) → List Int → Int → Option (List Int × Bool)
  | 0, _, _, _ => none
  | k + 1, x0, x4, x5 => if x5 < (x0.length : Int) then (if 0 ≤ x5 then (if ((rd_T45 x0 x5).f0) < 1 then (messuageref27_Write.j1 k x0 x4 x5 true ((rd_T45 x0 x5).f0) ((rd_T45 x0 x5).f1) ((rd_T45 x0 x5).f2) ((rd_T45 x0 x5).f3) ((rd_T45 x0 x5).f4) ((rd_T45 x0 x5).f5) ((rd_T45 x0 x5).f6.f0) ((rd_T45 x0 x5).f6.f1) ((rd_T45 x0 x5).f6.f2) ((rd_T45 x0 x5).f7)) else ((messuageref27_in.f ((rd_T45 x0 x5).f0) 12).bind fun t181 => (if t181 = true then ((messuageref27_in.f ((rd_T45 x0 x5).f1) 255).bind fun t182 => (if t182 = true then ((messuageref27_in.f ((rd_T45 x0 x5).f2) 65535).bind fun t183 => (if t183 = true then ((messuageref27_in.f ((rd_T45 x0 x5).f3) 65535).bind fun t184 => (if t184 = true then ((messuageref27_in.f ((rd_T45 x0 x5).f4) 65535).bind fun t185 => (if t185 = true then ((messuageref27_in.f ((rd_T45 x0 x5).f6.f0) 3).bind fun t186 => (if t186 = true then ((messuageref27_in.f ((rd_T45 x0 x5).f6.f2) 255).bind fun t187 => (if t187 = true then (messuageref27_Write.j1 k x0 x4 x5 (decide ((((rd_T45 x0 x5).f5).length : Int) > 255)) ((rd_T45 x0 x5).f0) ((rd_T45 x0 x5).f1) ((rd_T45 x0 x5).f2) ((rd_T45 x0 x5).f3) ((rd_T45 x0 x5).f4) ((rd_T45 x0 x5).f5) ((rd_T45 x0 x5).f6.f0) ((rd_T45 x0 x5).f6.f1) ((rd_T45 x0 x5).f6.f2) ((rd_T45 x0 x5).f7)) else (messuageref27_Write.j1 k x0 x4 x5 true ((rd_T45 x0 x5).f0) ((rd_T45 x0 x5).f1) ((rd_T45 x0 x5).f2) ((rd_T45 x0 x5).f3) ((rd_T45 x0 x5).f4) ((rd_T45 x0 x5).f5) ((rd_T45 x0 x5).f6.f0) ((rd_T45 x0 x5).f6.f1) ((rd_T45 x0 x5).f6.f2) ((rd_T45 x0 x5).f7)))) else (messuageref27_Write.j1 k x0 x4 x5 true ((rd_T45 x0 x5).f0) ((rd_T45 x0 x5).f1) ((rd_T45 x0 x5).f2) ((rd_T45 x0 x5).f3) ((rd_T45 x0 x5).f4) ((rd_T45 x0 x5).f5) ((rd_T45 x0 x5).f6.f0) ((rd_T45 x0 x5).f6.f1) ((rd_T45 x0 x5).f6.f2) ((rd_T45 x0 x5).f7)))) else (messuageref27_Write.j1 k x0 x4 x5 true ((rd_T45 x0 x5).f0) ((rd_T45 x0 x5).f1) ((rd_T45 x0 x5).f2) ((rd_T45 x0 x5).f3) ((rd_T45 x0 x5).f4) ((rd_T45 x0 x5).f5) ((rd_T45 x0 x5).f6.f0) ((rd_T45 x0 x5).f6.f1) ((rd_T45 x0 x5).f6.f2) ((rd_T45 x0 x5).f7)))) else (messuageref27_Write.j1 k x0 x4 x5 true ((rd_T45 x0 x5).f0) ((rd_T45 x0 x5).f1) ((rd_T45 x0 x5).f2) ((rd_T45 x0 x5).f3) ((rd_T45 x0 x5).f4) ((rd_T45 x0 x5).f5) ((rd_T45 x0 x5).f6.f0) ((rd_T45 x0 x5).f6.f1) ((rd_T45 x0 x5).f6.f2) ((rd_T45 x0 x5).f7)))) else (messuageref27_Write.j1 k x0 x4 x5 true ((rd_T45 x0 x5).f0) ((rd_T45 x0 x5).f1) ((rd_T45 x0 x5).f2) ((rd_T45 x0 x5).f3) ((rd_T45 x0 x5).f4) ((rd_T45 x0 x5).f5) ((rd_T45 x0 x5).f6.f0) ((rd_T45 x0 x5).f6.f1) ((rd_T45 x0 x5).f6.f2) ((rd_T45 x0 x5).f7)))) else (messuageref27_Write.j1 k x0 x4 x5 true ((rd_T45 x0 x5).f0) ((rd_T45 x0 x5).f1) ((rd_T45 x0 x5).f2) ((rd_T45 x0 x5).f3) ((rd_T45 x0 x5).f4) ((rd_T45 x0 x5).f5) ((rd_T45 x0 x5).f6.f0) ((rd_T45 x0 x5).f6.f1) ((rd_T45 x0 x5).f6.f2) ((rd_T45 x0 x5).f7)))) else (messuageref27_Write.j1 k x0 x4 x5 true ((rd_T45 x0 x5).f0) ((rd_T45 x0 x5).f1) ((rd_T45 x0 x5).f2) ((rd_T45 x0 x5).f3) ((rd_T45 x0 x5).f4) ((rd_T45 x0 x5).f5) ((rd_T45 x0 x5).f6.f0) ((rd_T45 x0 x5).f6.f1) ((rd_T45 x0 x5).f6.f2) ((rd_T45 x0 x5).f7))))) else (none)) else (some (x4, true))
def messuageref27_Write.j1 : Nat → List (S45) → List Int → Int → Bool → Int → Int → Int → Int → Int → List Int → Int → Int → Int → Bool → Option (List Int × Bool)
  | 0, _, _, _, _, _, _, _, _, _, _, _, _, _, _ => none
  | k + 1, x0, x4, x5, x70, x181000, x181001, x181002, x181003, x181004, x181005, x181006, x181007, x181008, x181009 => if x70 = true then (some (([] : List Int), false)) else (if x181009 = true then ((some (([(x181000) % 256, (x181001) % 256, (wrap64 (Int.tdiv x181002 256)) % 256, (Int.tmod x181002 256) % 256, (wrap64 (Int.tdiv x181003 256)) % 256, (Int.tmod x181003 256) % 256, (wrap64 (Int.tdiv x181004 256)) % 256, (Int.tmod x181004 256) % 256, (wrap64 (x181006 + 16)) % 256, x181007, (x181008) % 256, ((x181005.length : Int)) % 256] : List Int) : List Int)).bind fun y188 => (if x4.length + y188.length < 140737488355328 then ((some (x4 ++ y188 : List Int)).bind fun y191 => (if y191.length + x181005.length < 140737488355328 then (messuageref27_Write.l0 k x0 (y191 ++ x181005) (wrap64 (x5 + 1))) else (none))) else (none))) else ((some (([(x181000) % 256, (x181001) % 256, (wrap64 (Int.tdiv x181002 256)) % 256, (Int.tmod x181002 256) % 256, (wrap64 (Int.tdiv x181003 256)) % 256, (Int.tmod x181003 256) % 256, (wrap64 (Int.tdiv x181004 256)) % 256, (Int.tmod x181004 256) % 256, (x181006) % 256, x181007, (x181008) % 256, ((x181005.length : Int)) % 256] : List Int) : List Int)).bind fun y197 => (if x4.length + y197.length < 140737488355328 then ((some (x4 ++ y197 : List Int)).bind fun y200 => (if y200.length + x181005.length < 140737488355328 then (messuageref27_Write.l0 k x0 (y200 ++ x181005) (wrap64 (x5 + 1))) else (none))) else (none))))
end
def messuageref27_Write.f (k : Nat) (l0 : List (S45)) : Option (List Int × Bool) := messuageref27_Write.l0 k l0 ([] : List Int) 0
theorem messuageref27_Write.mono_l : ∀ k, (∀ y0 y1 y2, LeO (messuageref27_Write.l0 k y0 y1 y2) (messuageref27_Write.l0 (k + 1) y0 y1 y2)) ∧ (∀ y0 y1 y2 y3 y4 y5 y6 y7 y8 y9 y10 y11 y12 y13, LeO (messuageref27_Write.j1 k y0 y1 y2 y3 y4 y5 y6 y7 y8 y9 y10 y11 y12 y13) (messuageref27_Write.j1 (k + 1) y0 y1 y2 y3 y4 y5 y6 y7 y8 y9 y10 y11 y12 y13))
  | 0 => ⟨fun _ _ _ r h => by simp [messuageref27_Write.l0] at h, fun _ _ _ _ _ _ _ _ _ _ _ _ _ _ r h => by simp [messuageref27_Write.j1] at h⟩
  | k + 1 => by
    obtain ⟨ih0, ih1⟩ := messuageref27_Write.mono_l k
    refine ⟨?_, ?_⟩
    · intro y0 y1 y2
      unfold messuageref27_Write.l0
      repeat' first
      | (with_reducible exact ih0 _ _ _)
      | (with_reducible exact ih1 _ _ _ _ _ _ _ _ _ _ _ _ _ _)
      | (with_reducible exact LeO.refl _)
      | (with_reducible exact LeO.none _)
      | (with_reducible refine LeO.ite ?_ ?_)
      | (with_reducible refine LeO.bind ?_ (fun _ => ?_))
      | exact ih0 _ _ _
      | exact ih1 _ _ _ _ _ _ _ _ _ _ _ _ _ _
      | exact LeO.none _
      | refine LeO.ite ?_ ?_
      | refine LeO.bind ?_ (fun _ => ?_)
    · intro y0 y1 y2 y3 y4 y5 y6 y7 y8 y9 y10 y11 y12 y13
      unfold messuageref27_Write.j1
      repeat' first
      | (with_reducible exact ih0 _ _ _)
      | (with_reducible exact ih1 _ _ _ _ _ _ _ _ _ _ _ _ _ _)
      | (with_reducible exact LeO.refl _)
      | (with_reducible exact LeO.none _)
      | (with_reducible refine LeO.ite ?_ ?_)
      | (with_reducible refine LeO.bind ?_ (fun _ => ?_))
      | exact ih0 _ _ _
      | exact ih1 _ _ _ _ _ _ _ _ _ _ _ _ _ _
      | exact LeO.none _
      | refine LeO.ite ?_ ?_
      | refine LeO.bind ?_ (fun _ => ?_)
theorem messuageref27_Write.mono : ∀ a0 k, LeO (messuageref27_Write.f k a0) (messuageref27_Write.f (k + 1) a0) := by
  intro a0 k
  obtain ⟨ih0, ih1⟩ := messuageref27_Write.mono_l k
  unfold messuageref27_Write.f
  repeat' first
      | (with_reducible exact ih0 _ _ _)
      | (with_reducible exact ih1 _ _ _ _ _ _ _ _ _ _ _ _ _ _)
      | (with_reducible exact LeO.refl _)
      | (with_reducible exact LeO.none _)
      | (with_reducible refine LeO.ite ?_ ?_)
      | (with_reducible refine LeO.bind ?_ (fun _ => ?_))
      | exact ih0 _ _ _
      | exact ih1 _ _ _ _ _ _ _ _ _ _ _ _ _ _
      | exact LeO.none _
      | refine LeO.ite ?_ ?_
      | refine LeO.bind ?_ (fun _ => ?_)
set_option maxHeartbeats 8000000 in
set_option maxRecDepth 100000 in
theorem messuageref27_Write.calls (k : Nat) (A0 : Option Addr) (c0 : Nat) (l0 : List (S45)) (r1 : List Int) (r2 : Bool) (w : World) (hr0 : Kd.C k45 w A0 l0.length l0) (hc0 : l0.length ≤ c0) (h : messuageref27_Write.f k l0 = some (r1, r2)) :
    Calls Try.prog 9 #[.slice A0 l0.length c0] w fun e w' => ∃ v0_ : Value, e = .returned (.tuple #[v0_, .bool r2]) ∧ Kd.R (Kd.int .u8) 5 w' w.heap.size (fun _ => True) v0_ r1 ∧ Below w.heap.size w w' := by
  have hu45 := Try.underlying45
  have HR0 := Aside0.mk hr0
  have HC0 := Aside0.mk hc0
  clear hr0 hc0
  have HB := Aside0.mk (Below.refl w.heap.size w)
  have H : (messuageref27_Write.l0 k l0 ([] : List Int) 0) = some (r1, r2) := h
  clear h
  have H' := Aside0.mk H
  clear H
  go_enter Try.func9, Try.ntmps9
  go_wp2
  go_loopg [4, 5] k (fun kq v4 v5 w' => ∃ (x4_1 : List Int) (x5_1 : Int), v5 = .int .i64 x5_1 ∧ Aside0 (messuageref27_Write.l0 kq l0 x4_1 x5_1 = some (r1, r2)) ∧ Aside0 (kq ≤ k) ∧ Aside0 (Kd.R (Kd.int .u8) 5 w' w.heap.size (fun _ => True) v4 x4_1) ∧ Aside0 (Below w.heap.size w w'))
  case atStart => exact ⟨(([] : List Int)), (0), (by first | rfl | (simp; done) | (simp [*]; done)), H', ⟨Nat.le_refl _⟩, ⟨by first | exact Kd.R_nil _ _ _ _ _ | exact Kd.N_nil _ _ _ _ _ | exact Kd.V_nil _ _ _ _ _ | exact Kd.Q_nil _ _ _ _ _ | exact Kd.S_nil _ _ _ _ _⟩, ⟨by repeat (first | (with_reducible first | exact HB.out | apply below_alloc | apply pw_below_drewN | apply below_drew1) | exact HB.out)⟩⟩
  case round =>
    clear H'
    obtain ⟨x4_1, x5_1, rfl, HA, HK1, HO_4, HB⟩ := hrel
    cases gk with
    | zero => exact absurd HA.out (by simp [messuageref27_Write.l0])
    | succ k1 =>
      have H := HA.out
      clear HA
      simp only [messuageref27_Write.l0] at H
      by_cases c2 : x5_1 < (l0.length : Int)
      · rw [if_pos c2] at H
        have c2b0 : decide (x5_1 < (l0.length : Int)) = true := decide_eq_true c2
        clear c2
        by_cases c3 : 0 ≤ x5_1
        · rw [if_pos c3] at H
          have c3b0 : decide (0 ≤ x5_1) = true := decide_eq_true c3
          clear c3
          have HC4 := Aside0.mk H
          clear H
          have p179 : 0 ≤ (x5_1 : Int) := of_decide_eq_true (by first | (with_reducible assumption) | assumption)
          have q179 : x5_1 < (l0.length : Int) := of_decide_eq_true (by first | (with_reducible assumption) | assumption)
          obtain ⟨ad179, A179_5, c179_5, e179, hx179_0, hx179_1, hx179_2, hx179_3, hx179_4, hx179_5, hx179_6, hx179_7, hx179_8, hx179_9, hl179_5, hi179_5⟩ := at_T45 HR0.out x5_1 p179 q179
          cases e179
          replace hx179_0 := (HB.out.cell (World.block_lt_of_cell? w _ hx179_0)).trans hx179_0
          replace hx179_1 := (HB.out.cell (World.block_lt_of_cell? w _ hx179_1)).trans hx179_1
          replace hx179_2 := (HB.out.cell (World.block_lt_of_cell? w _ hx179_2)).trans hx179_2
          replace hx179_3 := (HB.out.cell (World.block_lt_of_cell? w _ hx179_3)).trans hx179_3
          replace hx179_4 := (HB.out.cell (World.block_lt_of_cell? w _ hx179_4)).trans hx179_4
          replace hx179_5 := (HB.out.cell (World.block_lt_of_cell? w _ hx179_5)).trans hx179_5
          replace hx179_6 := (HB.out.cell (World.block_lt_of_cell? w _ hx179_6)).trans hx179_6
          replace hx179_7 := (HB.out.cell (World.block_lt_of_cell? w _ hx179_7)).trans hx179_7
          replace hx179_8 := (HB.out.cell (World.block_lt_of_cell? w _ hx179_8)).trans hx179_8
          replace hx179_9 := (HB.out.cell (World.block_lt_of_cell? w _ hx179_9)).trans hx179_9
          have HR179_5 := Aside0.mk hi179_5
          have HC179_5 := Aside0.mk hl179_5
          clear hi179_5 hl179_5
          replace p179 := eq_true p179
          replace q179 := eq_true q179
          go_upto_region 6 with (first | ((with_reducible refine gate_dst (N := 6) rfl ?_); (try (refine gate_guard (by rfl) ?_; dsimp only)); refine box_event ?hg (N := 6) ?hd (cs := #[.int .i64 0, .int .i64 0, .int .i64 0, .int .i64 0, .int .i64 0, .slice none 0 0, .int .i64 0, .int .u8 0, .int .i64 0, .bool false]) (t := 45) ?hr ?_; (case hd => rfl); (case hg => rfl); (case hr => first | (go_simp; done) | (go_simp; rfl)); intro gb180 hg w5 hbox hb; have n0_ := Aside0.mk (Kd.R_below (by (with_reducible repeat (first | apply Kd.R_alloc | apply Kd.R_drewN | apply Kd.R_drew)); exact HO_4.out) hb); have n1_ := Aside0.mk (below_step (by repeat (first | (with_reducible first | exact HB.out | apply below_alloc | apply pw_below_drewN | apply below_drew1) | exact HB.out)) hb); have n2_ := Aside0.mk (hbox); have n3_ := Aside0.mk ((by rw [hg]; exact (below_size (by repeat (first | (with_reducible first | exact HB.out | apply below_alloc | apply pw_below_drewN | apply below_drew1) | exact HB.out))) : w.heap.size ≤ gb180)); have n4_ := Aside0.mk ((by rw [hg]; exact (below_size (by repeat (first | (with_reducible first | exact HB.out | apply below_alloc | apply pw_below_drewN | apply below_drew1) | exact HB.out))) : w.heap.size ≤ gb180)); clear HO_4; clear HB; have HO_4 := n0_; have HB := n1_; have BK180 := n2_; have GW180 := n3_; have GE180 := n4_; clear n0_ n1_ n2_ n3_ n4_; clear hb hbox hg; have hcz6_0 : w5.cell? ⟨gb180, 0, none⟩ = some (.int .i64 0) := (blk_cell BK180.out 0).trans rfl; have hcz6_1 : w5.cell? ⟨gb180, 1, none⟩ = some (.int .i64 0) := (blk_cell BK180.out 1).trans rfl; have hcz6_2 : w5.cell? ⟨gb180, 2, none⟩ = some (.int .i64 0) := (blk_cell BK180.out 2).trans rfl; have hcz6_3 : w5.cell? ⟨gb180, 3, none⟩ = some (.int .i64 0) := (blk_cell BK180.out 3).trans rfl; have hcz6_4 : w5.cell? ⟨gb180, 4, none⟩ = some (.int .i64 0) := (blk_cell BK180.out 4).trans rfl; have hcz6_5 : w5.cell? ⟨gb180, 5, none⟩ = some (.slice none 0 0) := (blk_cell BK180.out 5).trans rfl; have hcz6_6 : w5.cell? ⟨gb180, 6, none⟩ = some (.int .i64 0) := (blk_cell BK180.out 6).trans rfl; have hcz6_7 : w5.cell? ⟨gb180, 7, none⟩ = some (.int .u8 0) := (blk_cell BK180.out 7).trans rfl; have hcz6_8 : w5.cell? ⟨gb180, 8, none⟩ = some (.int .i64 0) := (blk_cell BK180.out 8).trans rfl; have hcz6_9 : w5.cell? ⟨gb180, 9, none⟩ = some (.bool false) := (blk_cell BK180.out 9).trans rfl; have hfz6_0 := blk_frozen BK180.out 0; have hfz6_1 := blk_frozen BK180.out 1; have hfz6_2 := blk_frozen BK180.out 2; have hfz6_3 := blk_frozen BK180.out 3; have hfz6_4 := blk_frozen BK180.out 4; have hfz6_5 := blk_frozen BK180.out 5; have hfz6_6 := blk_frozen BK180.out 6; have hfz6_7 := blk_frozen BK180.out 7; have hfz6_8 := blk_frozen BK180.out 8; have hfz6_9 := blk_frozen BK180.out 9))
          (try simp only [Act.put, List.setIfInBounds_toArray, List.set_cons_zero, List.set_cons_succ])
          go_cut [70] (fun v70 wc => ∃ (kq : Nat) (x70_3 : Bool), v70 = .bool x70_3 ∧ Aside0 (messuageref27_Write.j1 kq l0 x4_1 x5_1 x70_3 ((rd_T45 l0 x5_1).f0) ((rd_T45 l0 x5_1).f1) ((rd_T45 l0 x5_1).f2) ((rd_T45 l0 x5_1).f3) ((rd_T45 l0 x5_1).f4) ((rd_T45 l0 x5_1).f5) ((rd_T45 l0 x5_1).f6.f0) ((rd_T45 l0 x5_1).f6.f1) ((rd_T45 l0 x5_1).f6.f2) ((rd_T45 l0 x5_1).f7) = some (r1, r2)) ∧ Aside0 (kq ≤ k1) ∧ Aside0 (Kd.R (Kd.int .u8) 5 wc w.heap.size (fun _ => True) u4 x4_1) ∧ Aside0 (wc.heap[gb180]? = some (.cells #[.int .i64 ((rd_T45 l0 x5_1).f0), .int .i64 ((rd_T45 l0 x5_1).f1), .int .i64 ((rd_T45 l0 x5_1).f2), .int .i64 ((rd_T45 l0 x5_1).f3), .int .i64 ((rd_T45 l0 x5_1).f4), (.slice A179_5 ((rd_T45 l0 x5_1).f5).length c179_5), .int .i64 ((rd_T45 l0 x5_1).f6.f0), .int .u8 ((rd_T45 l0 x5_1).f6.f1), .int .i64 ((rd_T45 l0 x5_1).f6.f2), .bool ((rd_T45 l0 x5_1).f7)] 45 (0, 0))) ∧ Aside0 (Below w.heap.size w wc))
          case first =>
            have H := HC4.out
            clear HC4
            by_cases c7 : ((rd_T45 l0 x5_1).f0) < 1
            · rw [if_pos c7] at H
              have c7b0 : decide (((rd_T45 l0 x5_1).f0) < 1) = true := decide_eq_true c7
              clear c7
              (first | rw [c7b0] | (simp only [i64_w, i32_w]; rw [c7b0]) | skip)
              have H' := Aside0.mk H
              clear H
              have hcz8_0 : w5.cell? ⟨gb180, 0, none⟩ = some (.int .i64 0) := (blk_cell BK180.out 0).trans rfl
              have hcz8_1 : w5.cell? ⟨gb180, 1, none⟩ = some (.int .i64 0) := (blk_cell BK180.out 1).trans rfl
              have hcz8_2 : w5.cell? ⟨gb180, 2, none⟩ = some (.int .i64 0) := (blk_cell BK180.out 2).trans rfl
              have hcz8_3 : w5.cell? ⟨gb180, 3, none⟩ = some (.int .i64 0) := (blk_cell BK180.out 3).trans rfl
              have hcz8_4 : w5.cell? ⟨gb180, 4, none⟩ = some (.int .i64 0) := (blk_cell BK180.out 4).trans rfl
              have hcz8_5 : w5.cell? ⟨gb180, 5, none⟩ = some (.slice none 0 0) := (blk_cell BK180.out 5).trans rfl
              have hcz8_6 : w5.cell? ⟨gb180, 6, none⟩ = some (.int .i64 0) := (blk_cell BK180.out 6).trans rfl
              have hcz8_7 : w5.cell? ⟨gb180, 7, none⟩ = some (.int .u8 0) := (blk_cell BK180.out 7).trans rfl
              have hcz8_8 : w5.cell? ⟨gb180, 8, none⟩ = some (.int .i64 0) := (blk_cell BK180.out 8).trans rfl
              have hcz8_9 : w5.cell? ⟨gb180, 9, none⟩ = some (.bool false) := (blk_cell BK180.out 9).trans rfl
              have hfz8_0 := blk_frozen BK180.out 0
              have hfz8_1 := blk_frozen BK180.out 1
              have hfz8_2 := blk_frozen BK180.out 2
              have hfz8_3 := blk_frozen BK180.out 3
              have hfz8_4 := blk_frozen BK180.out 4
              have hfz8_5 := blk_frozen BK180.out 5
              have hfz8_6 := blk_frozen BK180.out 6
              have hfz8_7 := blk_frozen BK180.out 7
              have hfz8_8 := blk_frozen BK180.out 8
              have hfz8_9 := blk_frozen BK180.out 9
              go_wp2
              go_meet
              case rel => exact ⟨_, (true), (by first | rfl | (simp; done) | (simp [*]; done)), H', ⟨by have := HK1.out; first | omega | exact Nat.le_refl _⟩, ⟨by (with_reducible repeat (first | apply Kd.R_alloc | apply Kd.R_drewN | apply Kd.R_drew)); exact Kd.R_mono (Kd.R_far (p := ⟨gb180, 9, none⟩) (Kd.R_far (p := ⟨gb180, 8, none⟩) (Kd.R_far (p := ⟨gb180, 7, none⟩) (Kd.R_far (p := ⟨gb180, 6, none⟩) (Kd.R_far (p := ⟨gb180, 5, none⟩) (Kd.R_far (p := ⟨gb180, 4, none⟩) (Kd.R_far (p := ⟨gb180, 3, none⟩) (Kd.R_far (p := ⟨gb180, 2, none⟩) (Kd.R_far (p := ⟨gb180, 1, none⟩) (Kd.R_far (p := ⟨gb180, 0, none⟩) (Kd.R_types HO_4.out BK180.out (by decide)) (fun _ hk => hk.2) (.int .i64 ((rd_T45 l0 x5_1).f0))) (fun _ hk => hk.2) (.int .i64 ((rd_T45 l0 x5_1).f1))) (fun _ hk => hk.2) (.int .i64 ((rd_T45 l0 x5_1).f2))) (fun _ hk => hk.2) (.int .i64 ((rd_T45 l0 x5_1).f3))) (fun _ hk => hk.2) (.int .i64 ((rd_T45 l0 x5_1).f4))) (fun _ hk => hk.2) (.slice A179_5 ((rd_T45 l0 x5_1).f5).length c179_5)) (fun _ hk => hk.2) (.int .i64 ((rd_T45 l0 x5_1).f6.f0))) (fun _ hk => hk.2) (.int .u8 ((rd_T45 l0 x5_1).f6.f1))) (fun _ hk => hk.2) (.int .i64 ((rd_T45 l0 x5_1).f6.f2))) (fun _ hk => hk.2) (.bool ((rd_T45 l0 x5_1).f7))) (fun _ hk => trivial)⟩, ⟨by (with_reducible repeat (first | refine blk_drewN ?_ _ | refine blk_drew ?_ | refine blk_alloc ?_ _)); refine blk_put (cs := #[.int .i64 ((rd_T45 l0 x5_1).f0), .int .i64 ((rd_T45 l0 x5_1).f1), .int .i64 ((rd_T45 l0 x5_1).f2), .int .i64 ((rd_T45 l0 x5_1).f3), .int .i64 ((rd_T45 l0 x5_1).f4), .slice A179_5 ((rd_T45 l0 x5_1).f5).length c179_5, .int .i64 ((rd_T45 l0 x5_1).f6.f0), .int .u8 ((rd_T45 l0 x5_1).f6.f1), .int .i64 ((rd_T45 l0 x5_1).f6.f2), .bool false]) ?_ 9 _ rfl; (with_reducible repeat (first | refine blk_drewN ?_ _ | refine blk_drew ?_ | refine blk_alloc ?_ _)); refine blk_put (cs := #[.int .i64 ((rd_T45 l0 x5_1).f0), .int .i64 ((rd_T45 l0 x5_1).f1), .int .i64 ((rd_T45 l0 x5_1).f2), .int .i64 ((rd_T45 l0 x5_1).f3), .int .i64 ((rd_T45 l0 x5_1).f4), .slice A179_5 ((rd_T45 l0 x5_1).f5).length c179_5, .int .i64 ((rd_T45 l0 x5_1).f6.f0), .int .u8 ((rd_T45 l0 x5_1).f6.f1), .int .i64 0, .bool false]) ?_ 8 _ rfl; (with_reducible repeat (first | refine blk_drewN ?_ _ | refine blk_drew ?_ | refine blk_alloc ?_ _)); refine blk_put (cs := #[.int .i64 ((rd_T45 l0 x5_1).f0), .int .i64 ((rd_T45 l0 x5_1).f1), .int .i64 ((rd_T45 l0 x5_1).f2), .int .i64 ((rd_T45 l0 x5_1).f3), .int .i64 ((rd_T45 l0 x5_1).f4), .slice A179_5 ((rd_T45 l0 x5_1).f5).length c179_5, .int .i64 ((rd_T45 l0 x5_1).f6.f0), .int .u8 0, .int .i64 0, .bool false]) ?_ 7 _ rfl; (with_reducible repeat (first | refine blk_drewN ?_ _ | refine blk_drew ?_ | refine blk_alloc ?_ _)); refine blk_put (cs := #[.int .i64 ((rd_T45 l0 x5_1).f0), .int .i64 ((rd_T45 l0 x5_1).f1), .int .i64 ((rd_T45 l0 x5_1).f2), .int .i64 ((rd_T45 l0 x5_1).f3), .int .i64 ((rd_T45 l0 x5_1).f4), .slice A179_5 ((rd_T45 l0 x5_1).f5).length c179_5, .int .i64 0, .int .u8 0, .int .i64 0, .bool false]) ?_ 6 _ rfl; (with_reducible repeat (first | refine blk_drewN ?_ _ | refine blk_drew ?_ | refine blk_alloc ?_ _)); refine blk_put (cs := #[.int .i64 ((rd_T45 l0 x5_1).f0), .int .i64 ((rd_T45 l0 x5_1).f1), .int .i64 ((rd_T45 l0 x5_1).f2), .int .i64 ((rd_T45 l0 x5_1).f3), .int .i64 ((rd_T45 l0 x5_1).f4), .slice none 0 0, .int .i64 0, .int .u8 0, .int .i64 0, .bool false]) ?_ 5 _ rfl; (with_reducible repeat (first | refine blk_drewN ?_ _ | refine blk_drew ?_ | refine blk_alloc ?_ _)); refine blk_put (cs := #[.int .i64 ((rd_T45 l0 x5_1).f0), .int .i64 ((rd_T45 l0 x5_1).f1), .int .i64 ((rd_T45 l0 x5_1).f2), .int .i64 ((rd_T45 l0 x5_1).f3), .int .i64 0, .slice none 0 0, .int .i64 0, .int .u8 0, .int .i64 0, .bool false]) ?_ 4 _ rfl; (with_reducible repeat (first | refine blk_drewN ?_ _ | refine blk_drew ?_ | refine blk_alloc ?_ _)); refine blk_put (cs := #[.int .i64 ((rd_T45 l0 x5_1).f0), .int .i64 ((rd_T45 l0 x5_1).f1), .int .i64 ((rd_T45 l0 x5_1).f2), .int .i64 0, .int .i64 0, .slice none 0 0, .int .i64 0, .int .u8 0, .int .i64 0, .bool false]) ?_ 3 _ rfl; (with_reducible repeat (first | refine blk_drewN ?_ _ | refine blk_drew ?_ | refine blk_alloc ?_ _)); refine blk_put (cs := #[.int .i64 ((rd_T45 l0 x5_1).f0), .int .i64 ((rd_T45 l0 x5_1).f1), .int .i64 0, .int .i64 0, .int .i64 0, .slice none 0 0, .int .i64 0, .int .u8 0, .int .i64 0, .bool false]) ?_ 2 _ rfl; (with_reducible repeat (first | refine blk_drewN ?_ _ | refine blk_drew ?_ | refine blk_alloc ?_ _)); refine blk_put (cs := #[.int .i64 ((rd_T45 l0 x5_1).f0), .int .i64 0, .int .i64 0, .int .i64 0, .int .i64 0, .slice none 0 0, .int .i64 0, .int .u8 0, .int .i64 0, .bool false]) ?_ 1 _ rfl; (with_reducible repeat (first | refine blk_drewN ?_ _ | refine blk_drew ?_ | refine blk_alloc ?_ _)); refine blk_put (cs := #[.int .i64 0, .int .i64 0, .int .i64 0, .int .i64 0, .int .i64 0, .slice none 0 0, .int .i64 0, .int .u8 0, .int .i64 0, .bool false]) ?_ 0 _ rfl; (with_reducible repeat (first | refine blk_drewN ?_ _ | refine blk_drew ?_ | refine blk_alloc ?_ _)); exact BK180.out⟩, ⟨by repeat (first | (with_reducible first | exact HB.out | apply below_alloc | apply pw_below_drewN | apply below_drew1 | refine below_set ?_ GE180.out) | exact HB.out)⟩⟩
            · rw [if_neg c7] at H
              have c7b0 : decide (((rd_T45 l0 x5_1).f0) < 1) = false := decide_eq_false c7
              clear c7
              (first | rw [c7b0] | (simp only [i64_w, i32_w]; rw [c7b0]) | skip)
              replace H := Option.bind_eq_some_iff.mp H
              obtain ⟨t181, A90, H⟩ := H
              replace H : (if t181 = true then ((messuageref27_in.f ((rd_T45 l0 x5_1).f1) 255).bind fun t182 => (if t182 = true then ((messuageref27_in.f ((rd_T45 l0 x5_1).f2) 65535).bind fun t183 => (if t183 = true then ((messuageref27_in.f ((rd_T45 l0 x5_1).f3) 65535).bind fun t184 => (if t184 = true then ((messuageref27_in.f ((rd_T45 l0 x5_1).f4) 65535).bind fun t185 => (if t185 = true then ((messuageref27_in.f ((rd_T45 l0 x5_1).f6.f0) 3).bind fun t186 => (if t186 = true then ((messuageref27_in.f ((rd_T45 l0 x5_1).f6.f2) 255).bind fun t187 => (if t187 = true then (messuageref27_Write.j1 k1 l0 x4_1 x5_1 (decide ((((rd_T45 l0 x5_1).f5).length : Int) > 255)) ((rd_T45 l0 x5_1).f0) ((rd_T45 l0 x5_1).f1) ((rd_T45 l0 x5_1).f2) ((rd_T45 l0 x5_1).f3) ((rd_T45 l0 x5_1).f4) ((rd_T45 l0 x5_1).f5) ((rd_T45 l0 x5_1).f6.f0) ((rd_T45 l0 x5_1).f6.f1) ((rd_T45 l0 x5_1).f6.f2) ((rd_T45 l0 x5_1).f7)) else (messuageref27_Write.j1 k1 l0 x4_1 x5_1 true ((rd_T45 l0 x5_1).f0) ((rd_T45 l0 x5_1).f1) ((rd_T45 l0 x5_1).f2) ((rd_T45 l0 x5_1).f3) ((rd_T45 l0 x5_1).f4) ((rd_T45 l0 x5_1).f5) ((rd_T45 l0 x5_1).f6.f0) ((rd_T45 l0 x5_1).f6.f1) ((rd_T45 l0 x5_1).f6.f2) ((rd_T45 l0 x5_1).f7)))) else (messuageref27_Write.j1 k1 l0 x4_1 x5_1 true ((rd_T45 l0 x5_1).f0) ((rd_T45 l0 x5_1).f1) ((rd_T45 l0 x5_1).f2) ((rd_T45 l0 x5_1).f3) ((rd_T45 l0 x5_1).f4) ((rd_T45 l0 x5_1).f5) ((rd_T45 l0 x5_1).f6.f0) ((rd_T45 l0 x5_1).f6.f1) ((rd_T45 l0 x5_1).f6.f2) ((rd_T45 l0 x5_1).f7)))) else (messuageref27_Write.j1 k1 l0 x4_1 x5_1 true ((rd_T45 l0 x5_1).f0) ((rd_T45 l0 x5_1).f1) ((rd_T45 l0 x5_1).f2) ((rd_T45 l0 x5_1).f3) ((rd_T45 l0 x5_1).f4) ((rd_T45 l0 x5_1).f5) ((rd_T45 l0 x5_1).f6.f0) ((rd_T45 l0 x5_1).f6.f1) ((rd_T45 l0 x5_1).f6.f2) ((rd_T45 l0 x5_1).f7)))) else (messuageref27_Write.j1 k1 l0 x4_1 x5_1 true ((rd_T45 l0 x5_1).f0) ((rd_T45 l0 x5_1).f1) ((rd_T45 l0 x5_1).f2) ((rd_T45 l0 x5_1).f3) ((rd_T45 l0 x5_1).f4) ((rd_T45 l0 x5_1).f5) ((rd_T45 l0 x5_1).f6.f0) ((rd_T45 l0 x5_1).f6.f1) ((rd_T45 l0 x5_1).f6.f2) ((rd_T45 l0 x5_1).f7)))) else (messuageref27_Write.j1 k1 l0 x4_1 x5_1 true ((rd_T45 l0 x5_1).f0) ((rd_T45 l0 x5_1).f1) ((rd_T45 l0 x5_1).f2) ((rd_T45 l0 x5_1).f3) ((rd_T45 l0 x5_1).f4) ((rd_T45 l0 x5_1).f5) ((rd_T45 l0 x5_1).f6.f0) ((rd_T45 l0 x5_1).f6.f1) ((rd_T45 l0 x5_1).f6.f2) ((rd_T45 l0 x5_1).f7)))) else (messuageref27_Write.j1 k1 l0 x4_1 x5_1 true ((rd_T45 l0 x5_1).f0) ((rd_T45 l0 x5_1).f1) ((rd_T45 l0 x5_1).f2) ((rd_T45 l0 x5_1).f3) ((rd_T45 l0 x5_1).f4) ((rd_T45 l0 x5_1).f5) ((rd_T45 l0 x5_1).f6.f0) ((rd_T45 l0 x5_1).f6.f1) ((rd_T45 l0 x5_1).f6.f2) ((rd_T45 l0 x5_1).f7)))) else (messuageref27_Write.j1 k1 l0 x4_1 x5_1 true ((rd_T45 l0 x5_1).f0) ((rd_T45 l0 x5_1).f1) ((rd_T45 l0 x5_1).f2) ((rd_T45 l0 x5_1).f3) ((rd_T45 l0 x5_1).f4) ((rd_T45 l0 x5_1).f5) ((rd_T45 l0 x5_1).f6.f0) ((rd_T45 l0 x5_1).f6.f1) ((rd_T45 l0 x5_1).f6.f2) ((rd_T45 l0 x5_1).f7))) = some (r1, r2) := H
              have A9 := Aside0.mk A90
              clear A90
              by_cases c10 : t181 = true
              · subst c10
                have H1 : ((messuageref27_in.f ((rd_T45 l0 x5_1).f1) 255).bind fun t182 => (if t182 = true then ((messuageref27_in.f ((rd_T45 l0 x5_1).f2) 65535).bind fun t183 => (if t183 = true then ((messuageref27_in.f ((rd_T45 l0 x5_1).f3) 65535).bind fun t184 => (if t184 = true then ((messuageref27_in.f ((rd_T45 l0 x5_1).f4) 65535).bind fun t185 => (if t185 = true then ((messuageref27_in.f ((rd_T45 l0 x5_1).f6.f0) 3).bind fun t186 => (if t186 = true then ((messuageref27_in.f ((rd_T45 l0 x5_1).f6.f2) 255).bind fun t187 => (if t187 = true then (messuageref27_Write.j1 k1 l0 x4_1 x5_1 (decide ((((rd_T45 l0 x5_1).f5).length : Int) > 255)) ((rd_T45 l0 x5_1).f0) ((rd_T45 l0 x5_1).f1) ((rd_T45 l0 x5_1).f2) ((rd_T45 l0 x5_1).f3) ((rd_T45 l0 x5_1).f4) ((rd_T45 l0 x5_1).f5) ((rd_T45 l0 x5_1).f6.f0) ((rd_T45 l0 x5_1).f6.f1) ((rd_T45 l0 x5_1).f6.f2) ((rd_T45 l0 x5_1).f7)) else (messuageref27_Write.j1 k1 l0 x4_1 x5_1 true ((rd_T45 l0 x5_1).f0) ((rd_T45 l0 x5_1).f1) ((rd_T45 l0 x5_1).f2) ((rd_T45 l0 x5_1).f3) ((rd_T45 l0 x5_1).f4) ((rd_T45 l0 x5_1).f5) ((rd_T45 l0 x5_1).f6.f0) ((rd_T45 l0 x5_1).f6.f1) ((rd_T45 l0 x5_1).f6.f2) ((rd_T45 l0 x5_1).f7)))) else (messuageref27_Write.j1 k1 l0 x4_1 x5_1 true ((rd_T45 l0 x5_1).f0) ((rd_T45 l0 x5_1).f1) ((rd_T45 l0 x5_1).f2) ((rd_T45 l0 x5_1).f3) ((rd_T45 l0 x5_1).f4) ((rd_T45 l0 x5_1).f5) ((rd_T45 l0 x5_1).f6.f0) ((rd_T45 l0 x5_1).f6.f1) ((rd_T45 l0 x5_1).f6.f2) ((rd_T45 l0 x5_1).f7)))) else (messuageref27_Write.j1 k1 l0 x4_1 x5_1 true ((rd_T45 l0 x5_1).f0) ((rd_T45 l0 x5_1).f1) ((rd_T45 l0 x5_1).f2) ((rd_T45 l0 x5_1).f3) ((rd_T45 l0 x5_1).f4) ((rd_T45 l0 x5_1).f5) ((rd_T45 l0 x5_1).f6.f0) ((rd_T45 l0 x5_1).f6.f1) ((rd_T45 l0 x5_1).f6.f2) ((rd_T45 l0 x5_1).f7)))) else (messuageref27_Write.j1 k1 l0 x4_1 x5_1 true ((rd_T45 l0 x5_1).f0) ((rd_T45 l0 x5_1).f1) ((rd_T45 l0 x5_1).f2) ((rd_T45 l0 x5_1).f3) ((rd_T45 l0 x5_1).f4) ((rd_T45 l0 x5_1).f5) ((rd_T45 l0 x5_1).f6.f0) ((rd_T45 l0 x5_1).f6.f1) ((rd_T45 l0 x5_1).f6.f2) ((rd_T45 l0 x5_1).f7)))) else (messuageref27_Write.j1 k1 l0 x4_1 x5_1 true ((rd_T45 l0 x5_1).f0) ((rd_T45 l0 x5_1).f1) ((rd_T45 l0 x5_1).f2) ((rd_T45 l0 x5_1).f3) ((rd_T45 l0 x5_1).f4) ((rd_T45 l0 x5_1).f5) ((rd_T45 l0 x5_1).f6.f0) ((rd_T45 l0 x5_1).f6.f1) ((rd_T45 l0 x5_1).f6.f2) ((rd_T45 l0 x5_1).f7)))) else (messuageref27_Write.j1 k1 l0 x4_1 x5_1 true ((rd_T45 l0 x5_1).f0) ((rd_T45 l0 x5_1).f1) ((rd_T45 l0 x5_1).f2) ((rd_T45 l0 x5_1).f3) ((rd_T45 l0 x5_1).f4) ((rd_T45 l0 x5_1).f5) ((rd_T45 l0 x5_1).f6.f0) ((rd_T45 l0 x5_1).f6.f1) ((rd_T45 l0 x5_1).f6.f2) ((rd_T45 l0 x5_1).f7)))) = some (r1, r2) := by rw [if_pos rfl] at H; exact H
                clear H
                have H := H1
                clear H1
                replace H := Option.bind_eq_some_iff.mp H
                obtain ⟨t182, A110, H⟩ := H
                replace H : (if t182 = true then ((messuageref27_in.f ((rd_T45 l0 x5_1).f2) 65535).bind fun t183 => (if t183 = true then ((messuageref27_in.f ((rd_T45 l0 x5_1).f3) 65535).bind fun t184 => (if t184 = true then ((messuageref27_in.f ((rd_T45 l0 x5_1).f4) 65535).bind fun t185 => (if t185 = true then ((messuageref27_in.f ((rd_T45 l0 x5_1).f6.f0) 3).bind fun t186 => (if t186 = true then ((messuageref27_in.f ((rd_T45 l0 x5_1).f6.f2) 255).bind fun t187 => (if t187 = true then (messuageref27_Write.j1 k1 l0 x4_1 x5_1 (decide ((((rd_T45 l0 x5_1).f5).length : Int) > 255)) ((rd_T45 l0 x5_1).f0) ((rd_T45 l0 x5_1).f1) ((rd_T45 l0 x5_1).f2) ((rd_T45 l0 x5_1).f3) ((rd_T45 l0 x5_1).f4) ((rd_T45 l0 x5_1).f5) ((rd_T45 l0 x5_1).f6.f0) ((rd_T45 l0 x5_1).f6.f1) ((rd_T45 l0 x5_1).f6.f2) ((rd_T45 l0 x5_1).f7)) else (messuageref27_Write.j1 k1 l0 x4_1 x5_1 true ((rd_T45 l0 x5_1).f0) ((rd_T45 l0 x5_1).f1) ((rd_T45 l0 x5_1).f2) ((rd_T45 l0 x5_1).f3) ((rd_T45 l0 x5_1).f4) ((rd_T45 l0 x5_1).f5) ((rd_T45 l0 x5_1).f6.f0) ((rd_T45 l0 x5_1).f6.f1) ((rd_T45 l0 x5_1).f6.f2) ((rd_T45 l0 x5_1).f7)))) else (messuageref27_Write.j1 k1 l0 x4_1 x5_1 true ((rd_T45 l0 x5_1).f0) ((rd_T45 l0 x5_1).f1) ((rd_T45 l0 x5_1).f2) ((rd_T45 l0 x5_1).f3) ((rd_T45 l0 x5_1).f4) ((rd_T45 l0 x5_1).f5) ((rd_T45 l0 x5_1).f6.f0) ((rd_T45 l0 x5_1).f6.f1) ((rd_T45 l0 x5_1).f6.f2) ((rd_T45 l0 x5_1).f7)))) else (messuageref27_Write.j1 k1 l0 x4_1 x5_1 true ((rd_T45 l0 x5_1).f0) ((rd_T45 l0 x5_1).f1) ((rd_T45 l0 x5_1).f2) ((rd_T45 l0 x5_1).f3) ((rd_T45 l0 x5_1).f4) ((rd_T45 l0 x5_1).f5) ((rd_T45 l0 x5_1).f6.f0) ((rd_T45 l0 x5_1).f6.f1) ((rd_T45 l0 x5_1).f6.f2) ((rd_T45 l0 x5_1).f7)))) else (messuageref27_Write.j1 k1 l0 x4_1 x5_1 true ((rd_T45 l0 x5_1).f0) ((rd_T45 l0 x5_1).f1) ((rd_T45 l0 x5_1).f2) ((rd_T45 l0 x5_1).f3) ((rd_T45 l0 x5_1).f4) ((rd_T45 l0 x5_1).f5) ((rd_T45 l0 x5_1).f6.f0) ((rd_T45 l0 x5_1).f6.f1) ((rd_T45 l0 x5_1).f6.f2) ((rd_T45 l0 x5_1).f7)))) else (messuageref27_Write.j1 k1 l0 x4_1 x5_1 true ((rd_T45 l0 x5_1).f0) ((rd_T45 l0 x5_1).f1) ((rd_T45 l0 x5_1).f2) ((rd_T45 l0 x5_1).f3) ((rd_T45 l0 x5_1).f4) ((rd_T45 l0 x5_1).f5) ((rd_T45 l0 x5_1).f6.f0) ((rd_T45 l0 x5_1).f6.f1) ((rd_T45 l0 x5_1).f6.f2) ((rd_T45 l0 x5_1).f7)))) else (messuageref27_Write.j1 k1 l0 x4_1 x5_1 true ((rd_T45 l0 x5_1).f0) ((rd_T45 l0 x5_1).f1) ((rd_T45 l0 x5_1).f2) ((rd_T45 l0 x5_1).f3) ((rd_T45 l0 x5_1).f4) ((rd_T45 l0 x5_1).f5) ((rd_T45 l0 x5_1).f6.f0) ((rd_T45 l0 x5_1).f6.f1) ((rd_T45 l0 x5_1).f6.f2) ((rd_T45 l0 x5_1).f7))) = some (r1, r2) := H
                have A11 := Aside0.mk A110
                clear A110
                by_cases c12 : t182 = true
                · subst c12
                  have H1 : ((messuageref27_in.f ((rd_T45 l0 x5_1).f2) 65535).bind fun t183 => (if t183 = true then ((messuageref27_in.f ((rd_T45 l0 x5_1).f3) 65535).bind fun t184 => (if t184 = true then ((messuageref27_in.f ((rd_T45 l0 x5_1).f4) 65535).bind fun t185 => (if t185 = true then ((messuageref27_in.f ((rd_T45 l0 x5_1).f6.f0) 3).bind fun t186 => (if t186 = true then ((messuageref27_in.f ((rd_T45 l0 x5_1).f6.f2) 255).bind fun t187 => (if t187 = true then (messuageref27_Write.j1 k1 l0 x4_1 x5_1 (decide ((((rd_T45 l0 x5_1).f5).length : Int) > 255)) ((rd_T45 l0 x5_1).f0) ((rd_T45 l0 x5_1).f1) ((rd_T45 l0 x5_1).f2) ((rd_T45 l0 x5_1).f3) ((rd_T45 l0 x5_1).f4) ((rd_T45 l0 x5_1).f5) ((rd_T45 l0 x5_1).f6.f0) ((rd_T45 l0 x5_1).f6.f1) ((rd_T45 l0 x5_1).f6.f2) ((rd_T45 l0 x5_1).f7)) else (messuageref27_Write.j1 k1 l0 x4_1 x5_1 true ((rd_T45 l0 x5_1).f0) ((rd_T45 l0 x5_1).f1) ((rd_T45 l0 x5_1).f2) ((rd_T45 l0 x5_1).f3) ((rd_T45 l0 x5_1).f4) ((rd_T45 l0 x5_1).f5) ((rd_T45 l0 x5_1).f6.f0) ((rd_T45 l0 x5_1).f6.f1) ((rd_T45 l0 x5_1).f6.f2) ((rd_T45 l0 x5_1).f7)))) else (messuageref27_Write.j1 k1 l0 x4_1 x5_1 true ((rd_T45 l0 x5_1).f0) ((rd_T45 l0 x5_1).f1) ((rd_T45 l0 x5_1).f2) ((rd_T45 l0 x5_1).f3) ((rd_T45 l0 x5_1).f4) ((rd_T45 l0 x5_1).f5) ((rd_T45 l0 x5_1).f6.f0) ((rd_T45 l0 x5_1).f6.f1) ((rd_T45 l0 x5_1).f6.f2) ((rd_T45 l0 x5_1).f7)))) else (messuageref27_Write.j1 k1 l0 x4_1 x5_1 true ((rd_T45 l0 x5_1).f0) ((rd_T45 l0 x5_1).f1) ((rd_T45 l0 x5_1).f2) ((rd_T45 l0 x5_1).f3) ((rd_T45 l0 x5_1).f4) ((rd_T45 l0 x5_1).f5) ((rd_T45 l0 x5_1).f6.f0) ((rd_T45 l0 x5_1).f6.f1) ((rd_T45 l0 x5_1).f6.f2) ((rd_T45 l0 x5_1).f7)))) else (messuageref27_Write.j1 k1 l0 x4_1 x5_1 true ((rd_T45 l0 x5_1).f0) ((rd_T45 l0 x5_1).f1) ((rd_T45 l0 x5_1).f2) ((rd_T45 l0 x5_1).f3) ((rd_T45 l0 x5_1).f4) ((rd_T45 l0 x5_1).f5) ((rd_T45 l0 x5_1).f6.f0) ((rd_T45 l0 x5_1).f6.f1) ((rd_T45 l0 x5_1).f6.f2) ((rd_T45 l0 x5_1).f7)))) else (messuageref27_Write.j1 k1 l0 x4_1 x5_1 true ((rd_T45 l0 x5_1).f0) ((rd_T45 l0 x5_1).f1) ((rd_T45 l0 x5_1).f2) ((rd_T45 l0 x5_1).f3) ((rd_T45 l0 x5_1).f4) ((rd_T45 l0 x5_1).f5) ((rd_T45 l0 x5_1).f6.f0) ((rd_T45 l0 x5_1).f6.f1) ((rd_T45 l0 x5_1).f6.f2) ((rd_T45 l0 x5_1).f7)))) = some (r1, r2) := by rw [if_pos rfl] at H; exact H
                  clear H
                  have H := H1
                  clear H1
                  replace H := Option.bind_eq_some_iff.mp H
                  obtain ⟨t183, A130, H⟩ := H
                  replace H : (if t183 = true then ((messuageref27_in.f ((rd_T45 l0 x5_1).f3) 65535).bind fun t184 => (if t184 = true then ((messuageref27_in.f ((rd_T45 l0 x5_1).f4) 65535).bind fun t185 => (if t185 = true then ((messuageref27_in.f ((rd_T45 l0 x5_1).f6.f0) 3).bind fun t186 => (if t186 = true then ((messuageref27_in.f ((rd_T45 l0 x5_1).f6.f2) 255).bind fun t187 => (if t187 = true then (messuageref27_Write.j1 k1 l0 x4_1 x5_1 (decide ((((rd_T45 l0 x5_1).f5).length : Int) > 255)) ((rd_T45 l0 x5_1).f0) ((rd_T45 l0 x5_1).f1) ((rd_T45 l0 x5_1).f2) ((rd_T45 l0 x5_1).f3) ((rd_T45 l0 x5_1).f4) ((rd_T45 l0 x5_1).f5) ((rd_T45 l0 x5_1).f6.f0) ((rd_T45 l0 x5_1).f6.f1) ((rd_T45 l0 x5_1).f6.f2) ((rd_T45 l0 x5_1).f7)) else (messuageref27_Write.j1 k1 l0 x4_1 x5_1 true ((rd_T45 l0 x5_1).f0) ((rd_T45 l0 x5_1).f1) ((rd_T45 l0 x5_1).f2) ((rd_T45 l0 x5_1).f3) ((rd_T45 l0 x5_1).f4) ((rd_T45 l0 x5_1).f5) ((rd_T45 l0 x5_1).f6.f0) ((rd_T45 l0 x5_1).f6.f1) ((rd_T45 l0 x5_1).f6.f2) ((rd_T45 l0 x5_1).f7)))) else (messuageref27_Write.j1 k1 l0 x4_1 x5_1 true ((rd_T45 l0 x5_1).f0) ((rd_T45 l0 x5_1).f1) ((rd_T45 l0 x5_1).f2) ((rd_T45 l0 x5_1).f3) ((rd_T45 l0 x5_1).f4) ((rd_T45 l0 x5_1).f5) ((rd_T45 l0 x5_1).f6.f0) ((rd_T45 l0 x5_1).f6.f1) ((rd_T45 l0 x5_1).f6.f2) ((rd_T45 l0 x5_1).f7)))) else (messuageref27_Write.j1 k1 l0 x4_1 x5_1 true ((rd_T45 l0 x5_1).f0) ((rd_T45 l0 x5_1).f1) ((rd_T45 l0 x5_1).f2) ((rd_T45 l0 x5_1).f3) ((rd_T45 l0 x5_1).f4) ((rd_T45 l0 x5_1).f5) ((rd_T45 l0 x5_1).f6.f0) ((rd_T45 l0 x5_1).f6.f1) ((rd_T45 l0 x5_1).f6.f2) ((rd_T45 l0 x5_1).f7)))) else (messuageref27_Write.j1 k1 l0 x4_1 x5_1 true ((rd_T45 l0 x5_1).f0) ((rd_T45 l0 x5_1).f1) ((rd_T45 l0 x5_1).f2) ((rd_T45 l0 x5_1).f3) ((rd_T45 l0 x5_1).f4) ((rd_T45 l0 x5_1).f5) ((rd_T45 l0 x5_1).f6.f0) ((rd_T45 l0 x5_1).f6.f1) ((rd_T45 l0 x5_1).f6.f2) ((rd_T45 l0 x5_1).f7)))) else (messuageref27_Write.j1 k1 l0 x4_1 x5_1 true ((rd_T45 l0 x5_1).f0) ((rd_T45 l0 x5_1).f1) ((rd_T45 l0 x5_1).f2) ((rd_T45 l0 x5_1).f3) ((rd_T45 l0 x5_1).f4) ((rd_T45 l0 x5_1).f5) ((rd_T45 l0 x5_1).f6.f0) ((rd_T45 l0 x5_1).f6.f1) ((rd_T45 l0 x5_1).f6.f2) ((rd_T45 l0 x5_1).f7))) = some (r1, r2) := H
                  have A13 := Aside0.mk A130
                  clear A130
                  by_cases c14 : t183 = true
                  · subst c14
                    have H1 : ((messuageref27_in.f ((rd_T45 l0 x5_1).f3) 65535).bind fun t184 => (if t184 = true then ((messuageref27_in.f ((rd_T45 l0 x5_1).f4) 65535).bind fun t185 => (if t185 = true then ((messuageref27_in.f ((rd_T45 l0 x5_1).f6.f0) 3).bind fun t186 => (if t186 = true then ((messuageref27_in.f ((rd_T45 l0 x5_1).f6.f2) 255).bind fun t187 => (if t187 = true then (messuageref27_Write.j1 k1 l0 x4_1 x5_1 (decide ((((rd_T45 l0 x5_1).f5).length : Int) > 255)) ((rd_T45 l0 x5_1).f0) ((rd_T45 l0 x5_1).f1) ((rd_T45 l0 x5_1).f2) ((rd_T45 l0 x5_1).f3) ((rd_T45 l0 x5_1).f4) ((rd_T45 l0 x5_1).f5) ((rd_T45 l0 x5_1).f6.f0) ((rd_T45 l0 x5_1).f6.f1) ((rd_T45 l0 x5_1).f6.f2) ((rd_T45 l0 x5_1).f7)) else (messuageref27_Write.j1 k1 l0 x4_1 x5_1 true ((rd_T45 l0 x5_1).f0) ((rd_T45 l0 x5_1).f1) ((rd_T45 l0 x5_1).f2) ((rd_T45 l0 x5_1).f3) ((rd_T45 l0 x5_1).f4) ((rd_T45 l0 x5_1).f5) ((rd_T45 l0 x5_1).f6.f0) ((rd_T45 l0 x5_1).f6.f1) ((rd_T45 l0 x5_1).f6.f2) ((rd_T45 l0 x5_1).f7)))) else (messuageref27_Write.j1 k1 l0 x4_1 x5_1 true ((rd_T45 l0 x5_1).f0) ((rd_T45 l0 x5_1).f1) ((rd_T45 l0 x5_1).f2) ((rd_T45 l0 x5_1).f3) ((rd_T45 l0 x5_1).f4) ((rd_T45 l0 x5_1).f5) ((rd_T45 l0 x5_1).f6.f0) ((rd_T45 l0 x5_1).f6.f1) ((rd_T45 l0 x5_1).f6.f2) ((rd_T45 l0 x5_1).f7)))) else (messuageref27_Write.j1 k1 l0 x4_1 x5_1 true ((rd_T45 l0 x5_1).f0) ((rd_T45 l0 x5_1).f1) ((rd_T45 l0 x5_1).f2) ((rd_T45 l0 x5_1).f3) ((rd_T45 l0 x5_1).f4) ((rd_T45 l0 x5_1).f5) ((rd_T45 l0 x5_1).f6.f0) ((rd_T45 l0 x5_1).f6.f1) ((rd_T45 l0 x5_1).f6.f2) ((rd_T45 l0 x5_1).f7)))) else (messuageref27_Write.j1 k1 l0 x4_1 x5_1 true ((rd_T45 l0 x5_1).f0) ((rd_T45 l0 x5_1).f1) ((rd_T45 l0 x5_1).f2) ((rd_T45 l0 x5_1).f3) ((rd_T45 l0 x5_1).f4) ((rd_T45 l0 x5_1).f5) ((rd_T45 l0 x5_1).f6.f0) ((rd_T45 l0 x5_1).f6.f1) ((rd_T45 l0 x5_1).f6.f2) ((rd_T45 l0 x5_1).f7)))) = some (r1, r2) := by rw [if_pos rfl] at H; exact H
                    clear H
                    have H := H1
                    clear H1
                    replace H := Option.bind_eq_some_iff.mp H
                    obtain ⟨t184, A150, H⟩ := H
                    replace H : (if t184 = true then ((messuageref27_in.f ((rd_T45 l0 x5_1).f4) 65535).bind fun t185 => (if t185 = true then ((messuageref27_in.f ((rd_T45 l0 x5_1).f6.f0) 3).bind fun t186 => (if t186 = true then ((messuageref27_in.f ((rd_T45 l0 x5_1).f6.f2) 255).bind fun t187 => (if t187 = true then (messuageref27_Write.j1 k1 l0 x4_1 x5_1 (decide ((((rd_T45 l0 x5_1).f5).length : Int) > 255)) ((rd_T45 l0 x5_1).f0) ((rd_T45 l0 x5_1).f1) ((rd_T45 l0 x5_1).f2) ((rd_T45 l0 x5_1).f3) ((rd_T45 l0 x5_1).f4) ((rd_T45 l0 x5_1).f5) ((rd_T45 l0 x5_1).f6.f0) ((rd_T45 l0 x5_1).f6.f1) ((rd_T45 l0 x5_1).f6.f2) ((rd_T45 l0 x5_1).f7)) else (messuageref27_Write.j1 k1 l0 x4_1 x5_1 true ((rd_T45 l0 x5_1).f0) ((rd_T45 l0 x5_1).f1) ((rd_T45 l0 x5_1).f2) ((rd_T45 l0 x5_1).f3) ((rd_T45 l0 x5_1).f4) ((rd_T45 l0 x5_1).f5) ((rd_T45 l0 x5_1).f6.f0) ((rd_T45 l0 x5_1).f6.f1) ((rd_T45 l0 x5_1).f6.f2) ((rd_T45 l0 x5_1).f7)))) else (messuageref27_Write.j1 k1 l0 x4_1 x5_1 true ((rd_T45 l0 x5_1).f0) ((rd_T45 l0 x5_1).f1) ((rd_T45 l0 x5_1).f2) ((rd_T45 l0 x5_1).f3) ((rd_T45 l0 x5_1).f4) ((rd_T45 l0 x5_1).f5) ((rd_T45 l0 x5_1).f6.f0) ((rd_T45 l0 x5_1).f6.f1) ((rd_T45 l0 x5_1).f6.f2) ((rd_T45 l0 x5_1).f7)))) else (messuageref27_Write.j1 k1 l0 x4_1 x5_1 true ((rd_T45 l0 x5_1).f0) ((rd_T45 l0 x5_1).f1) ((rd_T45 l0 x5_1).f2) ((rd_T45 l0 x5_1).f3) ((rd_T45 l0 x5_1).f4) ((rd_T45 l0 x5_1).f5) ((rd_T45 l0 x5_1).f6.f0) ((rd_T45 l0 x5_1).f6.f1) ((rd_T45 l0 x5_1).f6.f2) ((rd_T45 l0 x5_1).f7)))) else (messuageref27_Write.j1 k1 l0 x4_1 x5_1 true ((rd_T45 l0 x5_1).f0) ((rd_T45 l0 x5_1).f1) ((rd_T45 l0 x5_1).f2) ((rd_T45 l0 x5_1).f3) ((rd_T45 l0 x5_1).f4) ((rd_T45 l0 x5_1).f5) ((rd_T45 l0 x5_1).f6.f0) ((rd_T45 l0 x5_1).f6.f1) ((rd_T45 l0 x5_1).f6.f2) ((rd_T45 l0 x5_1).f7))) = some (r1, r2) := H
                    have A15 := Aside0.mk A150
                    clear A150
                    by_cases c16 : t184 = true
                    · subst c16
                      have H1 : ((messuageref27_in.f ((rd_T45 l0 x5_1).f4) 65535).bind fun t185 => (if t185 = true then ((messuageref27_in.f ((rd_T45 l0 x5_1).f6.f0) 3).bind fun t186 => (if t186 = true then ((messuageref27_in.f ((rd_T45 l0 x5_1).f6.f2) 255).bind fun t187 => (if t187 = true then (messuageref27_Write.j1 k1 l0 x4_1 x5_1 (decide ((((rd_T45 l0 x5_1).f5).length : Int) > 255)) ((rd_T45 l0 x5_1).f0) ((rd_T45 l0 x5_1).f1) ((rd_T45 l0 x5_1).f2) ((rd_T45 l0 x5_1).f3) ((rd_T45 l0 x5_1).f4) ((rd_T45 l0 x5_1).f5) ((rd_T45 l0 x5_1).f6.f0) ((rd_T45 l0 x5_1).f6.f1) ((rd_T45 l0 x5_1).f6.f2) ((rd_T45 l0 x5_1).f7)) else (messuageref27_Write.j1 k1 l0 x4_1 x5_1 true ((rd_T45 l0 x5_1).f0) ((rd_T45 l0 x5_1).f1) ((rd_T45 l0 x5_1).f2) ((rd_T45 l0 x5_1).f3) ((rd_T45 l0 x5_1).f4) ((rd_T45 l0 x5_1).f5) ((rd_T45 l0 x5_1).f6.f0) ((rd_T45 l0 x5_1).f6.f1) ((rd_T45 l0 x5_1).f6.f2) ((rd_T45 l0 x5_1).f7)))) else (messuageref27_Write.j1 k1 l0 x4_1 x5_1 true ((rd_T45 l0 x5_1).f0) ((rd_T45 l0 x5_1).f1) ((rd_T45 l0 x5_1).f2) ((rd_T45 l0 x5_1).f3) ((rd_T45 l0 x5_1).f4) ((rd_T45 l0 x5_1).f5) ((rd_T45 l0 x5_1).f6.f0) ((rd_T45 l0 x5_1).f6.f1) ((rd_T45 l0 x5_1).f6.f2) ((rd_T45 l0 x5_1).f7)))) else (messuageref27_Write.j1 k1 l0 x4_1 x5_1 true ((rd_T45 l0 x5_1).f0) ((rd_T45 l0 x5_1).f1) ((rd_T45 l0 x5_1).f2) ((rd_T45 l0 x5_1).f3) ((rd_T45 l0 x5_1).f4) ((rd_T45 l0 x5_1).f5) ((rd_T45 l0 x5_1).f6.f0) ((rd_T45 l0 x5_1).f6.f1) ((rd_T45 l0 x5_1).f6.f2) ((rd_T45 l0 x5_1).f7)))) = some (r1, r2) := by rw [if_pos rfl] at H; exact H
                      clear H
                      have H := H1
                      clear H1
                      replace H := Option.bind_eq_some_iff.mp H
                      obtain ⟨t185, A170, H⟩ := H
                      replace H : (if t185 = true then ((messuageref27_in.f ((rd_T45 l0 x5_1).f6.f0) 3).bind fun t186 => (if t186 = true then ((messuageref27_in.f ((rd_T45 l0 x5_1).f6.f2) 255).bind fun t187 => (if t187 = true then (messuageref27_Write.j1 k1 l0 x4_1 x5_1 (decide ((((rd_T45 l0 x5_1).f5).length : Int) > 255)) ((rd_T45 l0 x5_1).f0) ((rd_T45 l0 x5_1).f1) ((rd_T45 l0 x5_1).f2) ((rd_T45 l0 x5_1).f3) ((rd_T45 l0 x5_1).f4) ((rd_T45 l0 x5_1).f5) ((rd_T45 l0 x5_1).f6.f0) ((rd_T45 l0 x5_1).f6.f1) ((rd_T45 l0 x5_1).f6.f2) ((rd_T45 l0 x5_1).f7)) else (messuageref27_Write.j1 k1 l0 x4_1 x5_1 true ((rd_T45 l0 x5_1).f0) ((rd_T45 l0 x5_1).f1) ((rd_T45 l0 x5_1).f2) ((rd_T45 l0 x5_1).f3) ((rd_T45 l0 x5_1).f4) ((rd_T45 l0 x5_1).f5) ((rd_T45 l0 x5_1).f6.f0) ((rd_T45 l0 x5_1).f6.f1) ((rd_T45 l0 x5_1).f6.f2) ((rd_T45 l0 x5_1).f7)))) else (messuageref27_Write.j1 k1 l0 x4_1 x5_1 true ((rd_T45 l0 x5_1).f0) ((rd_T45 l0 x5_1).f1) ((rd_T45 l0 x5_1).f2) ((rd_T45 l0 x5_1).f3) ((rd_T45 l0 x5_1).f4) ((rd_T45 l0 x5_1).f5) ((rd_T45 l0 x5_1).f6.f0) ((rd_T45 l0 x5_1).f6.f1) ((rd_T45 l0 x5_1).f6.f2) ((rd_T45 l0 x5_1).f7)))) else (messuageref27_Write.j1 k1 l0 x4_1 x5_1 true ((rd_T45 l0 x5_1).f0) ((rd_T45 l0 x5_1).f1) ((rd_T45 l0 x5_1).f2) ((rd_T45 l0 x5_1).f3) ((rd_T45 l0 x5_1).f4) ((rd_T45 l0 x5_1).f5) ((rd_T45 l0 x5_1).f6.f0) ((rd_T45 l0 x5_1).f6.f1) ((rd_T45 l0 x5_1).f6.f2) ((rd_T45 l0 x5_1).f7))) = some (r1, r2) := H
                      have A17 := Aside0.mk A170
                      clear A170
                      by_cases c18 : t185 = true
                      · subst c18
                        have H1 : ((messuageref27_in.f ((rd_T45 l0 x5_1).f6.f0) 3).bind fun t186 => (if t186 = true then ((messuageref27_in.f ((rd_T45 l0 x5_1).f6.f2) 255).bind fun t187 => (if t187 = true then (messuageref27_Write.j1 k1 l0 x4_1 x5_1 (decide ((((rd_T45 l0 x5_1).f5).length : Int) > 255)) ((rd_T45 l0 x5_1).f0) ((rd_T45 l0 x5_1).f1) ((rd_T45 l0 x5_1).f2) ((rd_T45 l0 x5_1).f3) ((rd_T45 l0 x5_1).f4) ((rd_T45 l0 x5_1).f5) ((rd_T45 l0 x5_1).f6.f0) ((rd_T45 l0 x5_1).f6.f1) ((rd_T45 l0 x5_1).f6.f2) ((rd_T45 l0 x5_1).f7)) else (messuageref27_Write.j1 k1 l0 x4_1 x5_1 true ((rd_T45 l0 x5_1).f0) ((rd_T45 l0 x5_1).f1) ((rd_T45 l0 x5_1).f2) ((rd_T45 l0 x5_1).f3) ((rd_T45 l0 x5_1).f4) ((rd_T45 l0 x5_1).f5) ((rd_T45 l0 x5_1).f6.f0) ((rd_T45 l0 x5_1).f6.f1) ((rd_T45 l0 x5_1).f6.f2) ((rd_T45 l0 x5_1).f7)))) else (messuageref27_Write.j1 k1 l0 x4_1 x5_1 true ((rd_T45 l0 x5_1).f0) ((rd_T45 l0 x5_1).f1) ((rd_T45 l0 x5_1).f2) ((rd_T45 l0 x5_1).f3) ((rd_T45 l0 x5_1).f4) ((rd_T45 l0 x5_1).f5) ((rd_T45 l0 x5_1).f6.f0) ((rd_T45 l0 x5_1).f6.f1) ((rd_T45 l0 x5_1).f6.f2) ((rd_T45 l0 x5_1).f7)))) = some (r1, r2) := by rw [if_pos rfl] at H; exact H
                        clear H
                        have H := H1
                        clear H1
                        replace H := Option.bind_eq_some_iff.mp H
                        obtain ⟨t186, A190, H⟩ := H
                        replace H : (if t186 = true then ((messuageref27_in.f ((rd_T45 l0 x5_1).f6.f2) 255).bind fun t187 => (if t187 = true then (messuageref27_Write.j1 k1 l0 x4_1 x5_1 (decide ((((rd_T45 l0 x5_1).f5).length : Int) > 255)) ((rd_T45 l0 x5_1).f0) ((rd_T45 l0 x5_1).f1) ((rd_T45 l0 x5_1).f2) ((rd_T45 l0 x5_1).f3) ((rd_T45 l0 x5_1).f4) ((rd_T45 l0 x5_1).f5) ((rd_T45 l0 x5_1).f6.f0) ((rd_T45 l0 x5_1).f6.f1) ((rd_T45 l0 x5_1).f6.f2) ((rd_T45 l0 x5_1).f7)) else (messuageref27_Write.j1 k1 l0 x4_1 x5_1 true ((rd_T45 l0 x5_1).f0) ((rd_T45 l0 x5_1).f1) ((rd_T45 l0 x5_1).f2) ((rd_T45 l0 x5_1).f3) ((rd_T45 l0 x5_1).f4) ((rd_T45 l0 x5_1).f5) ((rd_T45 l0 x5_1).f6.f0) ((rd_T45 l0 x5_1).f6.f1) ((rd_T45 l0 x5_1).f6.f2) ((rd_T45 l0 x5_1).f7)))) else (messuageref27_Write.j1 k1 l0 x4_1 x5_1 true ((rd_T45 l0 x5_1).f0) ((rd_T45 l0 x5_1).f1) ((rd_T45 l0 x5_1).f2) ((rd_T45 l0 x5_1).f3) ((rd_T45 l0 x5_1).f4) ((rd_T45 l0 x5_1).f5) ((rd_T45 l0 x5_1).f6.f0) ((rd_T45 l0 x5_1).f6.f1) ((rd_T45 l0 x5_1).f6.f2) ((rd_T45 l0 x5_1).f7))) = some (r1, r2) := H
                        have A19 := Aside0.mk A190
                        clear A190
                        by_cases c20 : t186 = true
                        · subst c20
                          have H1 : ((messuageref27_in.f ((rd_T45 l0 x5_1).f6.f2) 255).bind fun t187 => (if t187 = true then (messuageref27_Write.j1 k1 l0 x4_1 x5_1 (decide ((((rd_T45 l0 x5_1).f5).length : Int) > 255)) ((rd_T45 l0 x5_1).f0) ((rd_T45 l0 x5_1).f1) ((rd_T45 l0 x5_1).f2) ((rd_T45 l0 x5_1).f3) ((rd_T45 l0 x5_1).f4) ((rd_T45 l0 x5_1).f5) ((rd_T45 l0 x5_1).f6.f0) ((rd_T45 l0 x5_1).f6.f1) ((rd_T45 l0 x5_1).f6.f2) ((rd_T45 l0 x5_1).f7)) else (messuageref27_Write.j1 k1 l0 x4_1 x5_1 true ((rd_T45 l0 x5_1).f0) ((rd_T45 l0 x5_1).f1) ((rd_T45 l0 x5_1).f2) ((rd_T45 l0 x5_1).f3) ((rd_T45 l0 x5_1).f4) ((rd_T45 l0 x5_1).f5) ((rd_T45 l0 x5_1).f6.f0) ((rd_T45 l0 x5_1).f6.f1) ((rd_T45 l0 x5_1).f6.f2) ((rd_T45 l0 x5_1).f7)))) = some (r1, r2) := by rw [if_pos rfl] at H; exact H
                          clear H
                          have H := H1
                          clear H1
                          replace H := Option.bind_eq_some_iff.mp H
                          obtain ⟨t187, A210, H⟩ := H
                          replace H : (if t187 = true then (messuageref27_Write.j1 k1 l0 x4_1 x5_1 (decide ((((rd_T45 l0 x5_1).f5).length : Int) > 255)) ((rd_T45 l0 x5_1).f0) ((rd_T45 l0 x5_1).f1) ((rd_T45 l0 x5_1).f2) ((rd_T45 l0 x5_1).f3) ((rd_T45 l0 x5_1).f4) ((rd_T45 l0 x5_1).f5) ((rd_T45 l0 x5_1).f6.f0) ((rd_T45 l0 x5_1).f6.f1) ((rd_T45 l0 x5_1).f6.f2) ((rd_T45 l0 x5_1).f7)) else (messuageref27_Write.j1 k1 l0 x4_1 x5_1 true ((rd_T45 l0 x5_1).f0) ((rd_T45 l0 x5_1).f1) ((rd_T45 l0 x5_1).f2) ((rd_T45 l0 x5_1).f3) ((rd_T45 l0 x5_1).f4) ((rd_T45 l0 x5_1).f5) ((rd_T45 l0 x5_1).f6.f0) ((rd_T45 l0 x5_1).f6.f1) ((rd_T45 l0 x5_1).f6.f2) ((rd_T45 l0 x5_1).f7))) = some (r1, r2) := H
                          have A21 := Aside0.mk A210
                          clear A210
                          by_cases c22 : t187 = true
                          · subst c22
                            have H1 : (messuageref27_Write.j1 k1 l0 x4_1 x5_1 (decide ((((rd_T45 l0 x5_1).f5).length : Int) > 255)) ((rd_T45 l0 x5_1).f0) ((rd_T45 l0 x5_1).f1) ((rd_T45 l0 x5_1).f2) ((rd_T45 l0 x5_1).f3) ((rd_T45 l0 x5_1).f4) ((rd_T45 l0 x5_1).f5) ((rd_T45 l0 x5_1).f6.f0) ((rd_T45 l0 x5_1).f6.f1) ((rd_T45 l0 x5_1).f6.f2) ((rd_T45 l0 x5_1).f7)) = some (r1, r2) := by rw [if_pos rfl] at H; exact H
                            clear H
                            have H := H1
                            clear H1
                            have H' := Aside0.mk H
                            clear H
                            have hcz23_0 : w5.cell? ⟨gb180, 0, none⟩ = some (.int .i64 0) := (blk_cell BK180.out 0).trans rfl
                            have hcz23_1 : w5.cell? ⟨gb180, 1, none⟩ = some (.int .i64 0) := (blk_cell BK180.out 1).trans rfl
                            have hcz23_2 : w5.cell? ⟨gb180, 2, none⟩ = some (.int .i64 0) := (blk_cell BK180.out 2).trans rfl
                            have hcz23_3 : w5.cell? ⟨gb180, 3, none⟩ = some (.int .i64 0) := (blk_cell BK180.out 3).trans rfl
                            have hcz23_4 : w5.cell? ⟨gb180, 4, none⟩ = some (.int .i64 0) := (blk_cell BK180.out 4).trans rfl
                            have hcz23_5 : w5.cell? ⟨gb180, 5, none⟩ = some (.slice none 0 0) := (blk_cell BK180.out 5).trans rfl
                            have hcz23_6 : w5.cell? ⟨gb180, 6, none⟩ = some (.int .i64 0) := (blk_cell BK180.out 6).trans rfl
                            have hcz23_7 : w5.cell? ⟨gb180, 7, none⟩ = some (.int .u8 0) := (blk_cell BK180.out 7).trans rfl
                            have hcz23_8 : w5.cell? ⟨gb180, 8, none⟩ = some (.int .i64 0) := (blk_cell BK180.out 8).trans rfl
                            have hcz23_9 : w5.cell? ⟨gb180, 9, none⟩ = some (.bool false) := (blk_cell BK180.out 9).trans rfl
                            have hfz23_0 := blk_frozen BK180.out 0
                            have hfz23_1 := blk_frozen BK180.out 1
                            have hfz23_2 := blk_frozen BK180.out 2
                            have hfz23_3 := blk_frozen BK180.out 3
                            have hfz23_4 := blk_frozen BK180.out 4
                            have hfz23_5 := blk_frozen BK180.out 5
                            have hfz23_6 := blk_frozen BK180.out 6
                            have hfz23_7 := blk_frozen BK180.out 7
                            have hfz23_8 := blk_frozen BK180.out 8
                            have hfz23_9 := blk_frozen BK180.out 9
                            go_wp2_with (first | (go_at_call 18; (with_reducible refine (messuageref27_in.calls ((rd_T45 l0 x5_1).f0) 12 true _ A9.out).mono ?_); rintro e w' ⟨rfl, ⟨nd, rfl⟩⟩) | (go_at_call 18; (with_reducible refine (messuageref27_in.calls ((rd_T45 l0 x5_1).f1) 255 true _ A11.out).mono ?_); rintro e w' ⟨rfl, ⟨nd, rfl⟩⟩) | (go_at_call 18; (with_reducible refine (messuageref27_in.calls ((rd_T45 l0 x5_1).f2) 65535 true _ A13.out).mono ?_); rintro e w' ⟨rfl, ⟨nd, rfl⟩⟩) | (go_at_call 18; (with_reducible refine (messuageref27_in.calls ((rd_T45 l0 x5_1).f3) 65535 true _ A15.out).mono ?_); rintro e w' ⟨rfl, ⟨nd, rfl⟩⟩) | (go_at_call 18; (with_reducible refine (messuageref27_in.calls ((rd_T45 l0 x5_1).f4) 65535 true _ A17.out).mono ?_); rintro e w' ⟨rfl, ⟨nd, rfl⟩⟩) | (go_at_call 18; (with_reducible refine (messuageref27_in.calls ((rd_T45 l0 x5_1).f6.f0) 3 true _ A19.out).mono ?_); rintro e w' ⟨rfl, ⟨nd, rfl⟩⟩) | (go_at_call 18; (with_reducible refine (messuageref27_in.calls ((rd_T45 l0 x5_1).f6.f2) 255 true _ A21.out).mono ?_); rintro e w' ⟨rfl, ⟨nd, rfl⟩⟩))
                            go_meet
                            case rel => exact ⟨_, (decide ((((rd_T45 l0 x5_1).f5).length : Int) > 255)), (by first | rfl | (simp; done) | (simp [*]; done)), H', ⟨by have := HK1.out; first | omega | exact Nat.le_refl _⟩, ⟨by (with_reducible repeat (first | apply Kd.R_alloc | apply Kd.R_drewN | apply Kd.R_drew)); exact Kd.R_mono (Kd.R_far (p := ⟨gb180, 9, none⟩) (Kd.R_far (p := ⟨gb180, 8, none⟩) (Kd.R_far (p := ⟨gb180, 7, none⟩) (Kd.R_far (p := ⟨gb180, 6, none⟩) (Kd.R_far (p := ⟨gb180, 5, none⟩) (Kd.R_far (p := ⟨gb180, 4, none⟩) (Kd.R_far (p := ⟨gb180, 3, none⟩) (Kd.R_far (p := ⟨gb180, 2, none⟩) (Kd.R_far (p := ⟨gb180, 1, none⟩) (Kd.R_far (p := ⟨gb180, 0, none⟩) (Kd.R_types HO_4.out BK180.out (by decide)) (fun _ hk => hk.2) (.int .i64 ((rd_T45 l0 x5_1).f0))) (fun _ hk => hk.2) (.int .i64 ((rd_T45 l0 x5_1).f1))) (fun _ hk => hk.2) (.int .i64 ((rd_T45 l0 x5_1).f2))) (fun _ hk => hk.2) (.int .i64 ((rd_T45 l0 x5_1).f3))) (fun _ hk => hk.2) (.int .i64 ((rd_T45 l0 x5_1).f4))) (fun _ hk => hk.2) (.slice A179_5 ((rd_T45 l0 x5_1).f5).length c179_5)) (fun _ hk => hk.2) (.int .i64 ((rd_T45 l0 x5_1).f6.f0))) (fun _ hk => hk.2) (.int .u8 ((rd_T45 l0 x5_1).f6.f1))) (fun _ hk => hk.2) (.int .i64 ((rd_T45 l0 x5_1).f6.f2))) (fun _ hk => hk.2) (.bool ((rd_T45 l0 x5_1).f7))) (fun _ hk => trivial)⟩, ⟨by (with_reducible repeat (first | refine blk_drewN ?_ _ | refine blk_drew ?_ | refine blk_alloc ?_ _)); refine blk_put (cs := #[.int .i64 ((rd_T45 l0 x5_1).f0), .int .i64 ((rd_T45 l0 x5_1).f1), .int .i64 ((rd_T45 l0 x5_1).f2), .int .i64 ((rd_T45 l0 x5_1).f3), .int .i64 ((rd_T45 l0 x5_1).f4), .slice A179_5 ((rd_T45 l0 x5_1).f5).length c179_5, .int .i64 ((rd_T45 l0 x5_1).f6.f0), .int .u8 ((rd_T45 l0 x5_1).f6.f1), .int .i64 ((rd_T45 l0 x5_1).f6.f2), .bool false]) ?_ 9 _ rfl; (with_reducible repeat (first | refine blk_drewN ?_ _ | refine blk_drew ?_ | refine blk_alloc ?_ _)); refine blk_put (cs := #[.int .i64 ((rd_T45 l0 x5_1).f0), .int .i64 ((rd_T45 l0 x5_1).f1), .int .i64 ((rd_T45 l0 x5_1).f2), .int .i64 ((rd_T45 l0 x5_1).f3), .int .i64 ((rd_T45 l0 x5_1).f4), .slice A179_5 ((rd_T45 l0 x5_1).f5).length c179_5, .int .i64 ((rd_T45 l0 x5_1).f6.f0), .int .u8 ((rd_T45 l0 x5_1).f6.f1), .int .i64 0, .bool false]) ?_ 8 _ rfl; (with_reducible repeat (first | refine blk_drewN ?_ _ | refine blk_drew ?_ | refine blk_alloc ?_ _)); refine blk_put (cs := #[.int .i64 ((rd_T45 l0 x5_1).f0), .int .i64 ((rd_T45 l0 x5_1).f1), .int .i64 ((rd_T45 l0 x5_1).f2), .int .i64 ((rd_T45 l0 x5_1).f3), .int .i64 ((rd_T45 l0 x5_1).f4), .slice A179_5 ((rd_T45 l0 x5_1).f5).length c179_5, .int .i64 ((rd_T45 l0 x5_1).f6.f0), .int .u8 0, .int .i64 0, .bool false]) ?_ 7 _ rfl; (with_reducible repeat (first | refine blk_drewN ?_ _ | refine blk_drew ?_ | refine blk_alloc ?_ _)); refine blk_put (cs := #[.int .i64 ((rd_T45 l0 x5_1).f0), .int .i64 ((rd_T45 l0 x5_1).f1), .int .i64 ((rd_T45 l0 x5_1).f2), .int .i64 ((rd_T45 l0 x5_1).f3), .int .i64 ((rd_T45 l0 x5_1).f4), .slice A179_5 ((rd_T45 l0 x5_1).f5).length c179_5, .int .i64 0, .int .u8 0, .int .i64 0, .bool false]) ?_ 6 _ rfl; (with_reducible repeat (first | refine blk_drewN ?_ _ | refine blk_drew ?_ | refine blk_alloc ?_ _)); refine blk_put (cs := #[.int .i64 ((rd_T45 l0 x5_1).f0), .int .i64 ((rd_T45 l0 x5_1).f1), .int .i64 ((rd_T45 l0 x5_1).f2), .int .i64 ((rd_T45 l0 x5_1).f3), .int .i64 ((rd_T45 l0 x5_1).f4), .slice none 0 0, .int .i64 0, .int .u8 0, .int .i64 0, .bool false]) ?_ 5 _ rfl; (with_reducible repeat (first | refine blk_drewN ?_ _ | refine blk_drew ?_ | refine blk_alloc ?_ _)); refine blk_put (cs := #[.int .i64 ((rd_T45 l0 x5_1).f0), .int .i64 ((rd_T45 l0 x5_1).f1), .int .i64 ((rd_T45 l0 x5_1).f2), .int .i64 ((rd_T45 l0 x5_1).f3), .int .i64 0, .slice none 0 0, .int .i64 0, .int .u8 0, .int .i64 0, .bool false]) ?_ 4 _ rfl; (with_reducible repeat (first | refine blk_drewN ?_ _ | refine blk_drew ?_ | refine blk_alloc ?_ _)); refine blk_put (cs := #[.int .i64 ((rd_T45 l0 x5_1).f0), .int .i64 ((rd_T45 l0 x5_1).f1), .int .i64 ((rd_T45 l0 x5_1).f2), .int .i64 0, .int .i64 0, .slice none 0 0, .int .i64 0, .int .u8 0, .int .i64 0, .bool false]) ?_ 3 _ rfl; (with_reducible repeat (first | refine blk_drewN ?_ _ | refine blk_drew ?_ | refine blk_alloc ?_ _)); refine blk_put (cs := #[.int .i64 ((rd_T45 l0 x5_1).f0), .int .i64 ((rd_T45 l0 x5_1).f1), .int .i64 0, .int .i64 0, .int .i64 0, .slice none 0 0, .int .i64 0, .int .u8 0, .int .i64 0, .bool false]) ?_ 2 _ rfl; (with_reducible repeat (first | refine blk_drewN ?_ _ | refine blk_drew ?_ | refine blk_alloc ?_ _)); refine blk_put (cs := #[.int .i64 ((rd_T45 l0 x5_1).f0), .int .i64 0, .int .i64 0, .int .i64 0, .int .i64 0, .slice none 0 0, .int .i64 0, .int .u8 0, .int .i64 0, .bool false]) ?_ 1 _ rfl; (with_reducible repeat (first | refine blk_drewN ?_ _ | refine blk_drew ?_ | refine blk_alloc ?_ _)); refine blk_put (cs := #[.int .i64 0, .int .i64 0, .int .i64 0, .int .i64 0, .int .i64 0, .slice none 0 0, .int .i64 0, .int .u8 0, .int .i64 0, .bool false]) ?_ 0 _ rfl; (with_reducible repeat (first | refine blk_drewN ?_ _ | refine blk_drew ?_ | refine blk_alloc ?_ _)); exact BK180.out⟩, ⟨by repeat (first | (with_reducible first | exact HB.out | apply below_alloc | apply pw_below_drewN | apply below_drew1 | refine below_set ?_ GE180.out) | exact HB.out)⟩⟩
                          · replace c22 := Bool.eq_false_iff.mpr c22
                            subst c22
                            have H1 : (messuageref27_Write.j1 k1 l0 x4_1 x5_1 true ((rd_T45 l0 x5_1).f0) ((rd_T45 l0 x5_1).f1) ((rd_T45 l0 x5_1).f2) ((rd_T45 l0 x5_1).f3) ((rd_T45 l0 x5_1).f4) ((rd_T45 l0 x5_1).f5) ((rd_T45 l0 x5_1).f6.f0) ((rd_T45 l0 x5_1).f6.f1) ((rd_T45 l0 x5_1).f6.f2) ((rd_T45 l0 x5_1).f7)) = some (r1, r2) := by rw [if_neg (show ¬ (false = true) by decide)] at H; exact H
                            clear H
                            have H := H1
                            clear H1
                            have H' := Aside0.mk H
                            clear H
                            have hcz24_0 : w5.cell? ⟨gb180, 0, none⟩ = some (.int .i64 0) := (blk_cell BK180.out 0).trans rfl
                            have hcz24_1 : w5.cell? ⟨gb180, 1, none⟩ = some (.int .i64 0) := (blk_cell BK180.out 1).trans rfl
                            have hcz24_2 : w5.cell? ⟨gb180, 2, none⟩ = some (.int .i64 0) := (blk_cell BK180.out 2).trans rfl
                            have hcz24_3 : w5.cell? ⟨gb180, 3, none⟩ = some (.int .i64 0) := (blk_cell BK180.out 3).trans rfl
                            have hcz24_4 : w5.cell? ⟨gb180, 4, none⟩ = some (.int .i64 0) := (blk_cell BK180.out 4).trans rfl
                            have hcz24_5 : w5.cell? ⟨gb180, 5, none⟩ = some (.slice none 0 0) := (blk_cell BK180.out 5).trans rfl
                            have hcz24_6 : w5.cell? ⟨gb180, 6, none⟩ = some (.int .i64 0) := (blk_cell BK180.out 6).trans rfl
                            have hcz24_7 : w5.cell? ⟨gb180, 7, none⟩ = some (.int .u8 0) := (blk_cell BK180.out 7).trans rfl
                            have hcz24_8 : w5.cell? ⟨gb180, 8, none⟩ = some (.int .i64 0) := (blk_cell BK180.out 8).trans rfl
                            have hcz24_9 : w5.cell? ⟨gb180, 9, none⟩ = some (.bool false) := (blk_cell BK180.out 9).trans rfl
                            have hfz24_0 := blk_frozen BK180.out 0
                            have hfz24_1 := blk_frozen BK180.out 1
                            have hfz24_2 := blk_frozen BK180.out 2
                            have hfz24_3 := blk_frozen BK180.out 3
                            have hfz24_4 := blk_frozen BK180.out 4
                            have hfz24_5 := blk_frozen BK180.out 5
                            have hfz24_6 := blk_frozen BK180.out 6
                            have hfz24_7 := blk_frozen BK180.out 7
                            have hfz24_8 := blk_frozen BK180.out 8
                            have hfz24_9 := blk_frozen BK180.out 9
                            go_wp2_with (first | (go_at_call 18; (with_reducible refine (messuageref27_in.calls ((rd_T45 l0 x5_1).f0) 12 true _ A9.out).mono ?_); rintro e w' ⟨rfl, ⟨nd, rfl⟩⟩) | (go_at_call 18; (with_reducible refine (messuageref27_in.calls ((rd_T45 l0 x5_1).f1) 255 true _ A11.out).mono ?_); rintro e w' ⟨rfl, ⟨nd, rfl⟩⟩) | (go_at_call 18; (with_reducible refine (messuageref27_in.calls ((rd_T45 l0 x5_1).f2) 65535 true _ A13.out).mono ?_); rintro e w' ⟨rfl, ⟨nd, rfl⟩⟩) | (go_at_call 18; (with_reducible refine (messuageref27_in.calls ((rd_T45 l0 x5_1).f3) 65535 true _ A15.out).mono ?_); rintro e w' ⟨rfl, ⟨nd, rfl⟩⟩) | (go_at_call 18; (with_reducible refine (messuageref27_in.calls ((rd_T45 l0 x5_1).f4) 65535 true _ A17.out).mono ?_); rintro e w' ⟨rfl, ⟨nd, rfl⟩⟩) | (go_at_call 18; (with_reducible refine (messuageref27_in.calls ((rd_T45 l0 x5_1).f6.f0) 3 true _ A19.out).mono ?_); rintro e w' ⟨rfl, ⟨nd, rfl⟩⟩) | (go_at_call 18; (with_reducible refine (messuageref27_in.calls ((rd_T45 l0 x5_1).f6.f2) 255 false _ A21.out).mono ?_); rintro e w' ⟨rfl, ⟨nd, rfl⟩⟩))
                            go_meet
                            case rel => exact ⟨_, (true), (by first | rfl | (simp; done) | (simp [*]; done)), H', ⟨by have := HK1.out; first | omega | exact Nat.le_refl _⟩, ⟨by (with_reducible repeat (first | apply Kd.R_alloc | apply Kd.R_drewN | apply Kd.R_drew)); exact Kd.R_mono (Kd.R_far (p := ⟨gb180, 9, none⟩) (Kd.R_far (p := ⟨gb180, 8, none⟩) (Kd.R_far (p := ⟨gb180, 7, none⟩) (Kd.R_far (p := ⟨gb180, 6, none⟩) (Kd.R_far (p := ⟨gb180, 5, none⟩) (Kd.R_far (p := ⟨gb180, 4, none⟩) (Kd.R_far (p := ⟨gb180, 3, none⟩) (Kd.R_far (p := ⟨gb180, 2, none⟩) (Kd.R_far (p := ⟨gb180, 1, none⟩) (Kd.R_far (p := ⟨gb180, 0, none⟩) (Kd.R_types HO_4.out BK180.out (by decide)) (fun _ hk => hk.2) (.int .i64 ((rd_T45 l0 x5_1).f0))) (fun _ hk => hk.2) (.int .i64 ((rd_T45 l0 x5_1).f1))) (fun _ hk => hk.2) (.int .i64 ((rd_T45 l0 x5_1).f2))) (fun _ hk => hk.2) (.int .i64 ((rd_T45 l0 x5_1).f3))) (fun _ hk => hk.2) (.int .i64 ((rd_T45 l0 x5_1).f4))) (fun _ hk => hk.2) (.slice A179_5 ((rd_T45 l0 x5_1).f5).length c179_5)) (fun _ hk => hk.2) (.int .i64 ((rd_T45 l0 x5_1).f6.f0))) (fun _ hk => hk.2) (.int .u8 ((rd_T45 l0 x5_1).f6.f1))) (fun _ hk => hk.2) (.int .i64 ((rd_T45 l0 x5_1).f6.f2))) (fun _ hk => hk.2) (.bool ((rd_T45 l0 x5_1).f7))) (fun _ hk => trivial)⟩, ⟨by (with_reducible repeat (first | refine blk_drewN ?_ _ | refine blk_drew ?_ | refine blk_alloc ?_ _)); refine blk_put (cs := #[.int .i64 ((rd_T45 l0 x5_1).f0), .int .i64 ((rd_T45 l0 x5_1).f1), .int .i64 ((rd_T45 l0 x5_1).f2), .int .i64 ((rd_T45 l0 x5_1).f3), .int .i64 ((rd_T45 l0 x5_1).f4), .slice A179_5 ((rd_T45 l0 x5_1).f5).length c179_5, .int .i64 ((rd_T45 l0 x5_1).f6.f0), .int .u8 ((rd_T45 l0 x5_1).f6.f1), .int .i64 ((rd_T45 l0 x5_1).f6.f2), .bool false]) ?_ 9 _ rfl; (with_reducible repeat (first | refine blk_drewN ?_ _ | refine blk_drew ?_ | refine blk_alloc ?_ _)); refine blk_put (cs := #[.int .i64 ((rd_T45 l0 x5_1).f0), .int .i64 ((rd_T45 l0 x5_1).f1), .int .i64 ((rd_T45 l0 x5_1).f2), .int .i64 ((rd_T45 l0 x5_1).f3), .int .i64 ((rd_T45 l0 x5_1).f4), .slice A179_5 ((rd_T45 l0 x5_1).f5).length c179_5, .int .i64 ((rd_T45 l0 x5_1).f6.f0), .int .u8 ((rd_T45 l0 x5_1).f6.f1), .int .i64 0, .bool false]) ?_ 8 _ rfl; (with_reducible repeat (first | refine blk_drewN ?_ _ | refine blk_drew ?_ | refine blk_alloc ?_ _)); refine blk_put (cs := #[.int .i64 ((rd_T45 l0 x5_1).f0), .int .i64 ((rd_T45 l0 x5_1).f1), .int .i64 ((rd_T45 l0 x5_1).f2), .int .i64 ((rd_T45 l0 x5_1).f3), .int .i64 ((rd_T45 l0 x5_1).f4), .slice A179_5 ((rd_T45 l0 x5_1).f5).length c179_5, .int .i64 ((rd_T45 l0 x5_1).f6.f0), .int .u8 0, .int .i64 0, .bool false]) ?_ 7 _ rfl; (with_reducible repeat (first | refine blk_drewN ?_ _ | refine blk_drew ?_ | refine blk_alloc ?_ _)); refine blk_put (cs := #[.int .i64 ((rd_T45 l0 x5_1).f0), .int .i64 ((rd_T45 l0 x5_1).f1), .int .i64 ((rd_T45 l0 x5_1).f2), .int .i64 ((rd_T45 l0 x5_1).f3), .int .i64 ((rd_T45 l0 x5_1).f4), .slice A179_5 ((rd_T45 l0 x5_1).f5).length c179_5, .int .i64 0, .int .u8 0, .int .i64 0, .bool false]) ?_ 6 _ rfl; (with_reducible repeat (first | refine blk_drewN ?_ _ | refine blk_drew ?_ | refine blk_alloc ?_ _)); refine blk_put (cs := #[.int .i64 ((rd_T45 l0 x5_1).f0), .int .i64 ((rd_T45 l0 x5_1).f1), .int .i64 ((rd_T45 l0 x5_1).f2), .int .i64 ((rd_T45 l0 x5_1).f3), .int .i64 ((rd_T45 l0 x5_1).f4), .slice none 0 0, .int .i64 0, .int .u8 0, .int .i64 0, .bool false]) ?_ 5 _ rfl; (with_reducible repeat (first | refine blk_drewN ?_ _ | refine blk_drew ?_ | refine blk_alloc ?_ _)); refine blk_put (cs := #[.int .i64 ((rd_T45 l0 x5_1).f0), .int .i64 ((rd_T45 l0 x5_1).f1), .int .i64 ((rd_T45 l0 x5_1).f2), .int .i64 ((rd_T45 l0 x5_1).f3), .int .i64 0, .slice none 0 0, .int .i64 0, .int .u8 0, .int .i64 0, .bool false]) ?_ 4 _ rfl; (with_reducible repeat (first | refine blk_drewN ?_ _ | refine blk_drew ?_ | refine blk_alloc ?_ _)); refine blk_put (cs := #[.int .i64 ((rd_T45 l0 x5_1).f0), .int .i64 ((rd_T45 l0 x5_1).f1), .int .i64 ((rd_T45 l0 x5_1).f2), .int .i64 0, .int .i64 0, .slice none 0 0, .int .i64 0, .int .u8 0, .int .i64 0, .bool false]) ?_ 3 _ rfl; (with_reducible repeat (first | refine blk_drewN ?_ _ | refine blk_drew ?_ | refine blk_alloc ?_ _)); refine blk_put (cs := #[.int .i64 ((rd_T45 l0 x5_1).f0), .int .i64 ((rd_T45 l0 x5_1).f1), .int .i64 0, .int .i64 0, .int .i64 0, .slice none 0 0, .int .i64 0, .int .u8 0, .int .i64 0, .bool false]) ?_ 2 _ rfl; (with_reducible repeat (first | refine blk_drewN ?_ _ | refine blk_drew ?_ | refine blk_alloc ?_ _)); refine blk_put (cs := #[.int .i64 ((rd_T45 l0 x5_1).f0), .int .i64 0, .int .i64 0, .int .i64 0, .int .i64 0, .slice none 0 0, .int .i64 0, .int .u8 0, .int .i64 0, .bool false]) ?_ 1 _ rfl; (with_reducible repeat (first | refine blk_drewN ?_ _ | refine blk_drew ?_ | refine blk_alloc ?_ _)); refine blk_put (cs := #[.int .i64 0, .int .i64 0, .int .i64 0, .int .i64 0, .int .i64 0, .slice none 0 0, .int .i64 0, .int .u8 0, .int .i64 0, .bool false]) ?_ 0 _ rfl; (with_reducible repeat (first | refine blk_drewN ?_ _ | refine blk_drew ?_ | refine blk_alloc ?_ _)); exact BK180.out⟩, ⟨by repeat (first | (with_reducible first | exact HB.out | apply below_alloc | apply pw_below_drewN | apply below_drew1 | refine below_set ?_ GE180.out) | exact HB.out)⟩⟩
                        · replace c20 := Bool.eq_false_iff.mpr c20
                          subst c20
                          have H1 : (messuageref27_Write.j1 k1 l0 x4_1 x5_1 true ((rd_T45 l0 x5_1).f0) ((rd_T45 l0 x5_1).f1) ((rd_T45 l0 x5_1).f2) ((rd_T45 l0 x5_1).f3) ((rd_T45 l0 x5_1).f4) ((rd_T45 l0 x5_1).f5) ((rd_T45 l0 x5_1).f6.f0) ((rd_T45 l0 x5_1).f6.f1) ((rd_T45 l0 x5_1).f6.f2) ((rd_T45 l0 x5_1).f7)) = some (r1, r2) := by rw [if_neg (show ¬ (false = true) by decide)] at H; exact H
                          clear H
                          have H := H1
                          clear H1
                          have H' := Aside0.mk H
                          clear H
                          have hcz25_0 : w5.cell? ⟨gb180, 0, none⟩ = some (.int .i64 0) := (blk_cell BK180.out 0).trans rfl
                          have hcz25_1 : w5.cell? ⟨gb180, 1, none⟩ = some (.int .i64 0) := (blk_cell BK180.out 1).trans rfl
                          have hcz25_2 : w5.cell? ⟨gb180, 2, none⟩ = some (.int .i64 0) := (blk_cell BK180.out 2).trans rfl
                          have hcz25_3 : w5.cell? ⟨gb180, 3, none⟩ = some (.int .i64 0) := (blk_cell BK180.out 3).trans rfl
                          have hcz25_4 : w5.cell? ⟨gb180, 4, none⟩ = some (.int .i64 0) := (blk_cell BK180.out 4).trans rfl
                          have hcz25_5 : w5.cell? ⟨gb180, 5, none⟩ = some (.slice none 0 0) := (blk_cell BK180.out 5).trans rfl
                          have hcz25_6 : w5.cell? ⟨gb180, 6, none⟩ = some (.int .i64 0) := (blk_cell BK180.out 6).trans rfl
                          have hcz25_7 : w5.cell? ⟨gb180, 7, none⟩ = some (.int .u8 0) := (blk_cell BK180.out 7).trans rfl
                          have hcz25_8 : w5.cell? ⟨gb180, 8, none⟩ = some (.int .i64 0) := (blk_cell BK180.out 8).trans rfl
                          have hcz25_9 : w5.cell? ⟨gb180, 9, none⟩ = some (.bool false) := (blk_cell BK180.out 9).trans rfl
                          have hfz25_0 := blk_frozen BK180.out 0
                          have hfz25_1 := blk_frozen BK180.out 1
                          have hfz25_2 := blk_frozen BK180.out 2
                          have hfz25_3 := blk_frozen BK180.out 3
                          have hfz25_4 := blk_frozen BK180.out 4
                          have hfz25_5 := blk_frozen BK180.out 5
                          have hfz25_6 := blk_frozen BK180.out 6
                          have hfz25_7 := blk_frozen BK180.out 7
                          have hfz25_8 := blk_frozen BK180.out 8
                          have hfz25_9 := blk_frozen BK180.out 9
                          go_wp2_with (first | (go_at_call 18; (with_reducible refine (messuageref27_in.calls ((rd_T45 l0 x5_1).f0) 12 true _ A9.out).mono ?_); rintro e w' ⟨rfl, ⟨nd, rfl⟩⟩) | (go_at_call 18; (with_reducible refine (messuageref27_in.calls ((rd_T45 l0 x5_1).f1) 255 true _ A11.out).mono ?_); rintro e w' ⟨rfl, ⟨nd, rfl⟩⟩) | (go_at_call 18; (with_reducible refine (messuageref27_in.calls ((rd_T45 l0 x5_1).f2) 65535 true _ A13.out).mono ?_); rintro e w' ⟨rfl, ⟨nd, rfl⟩⟩) | (go_at_call 18; (with_reducible refine (messuageref27_in.calls ((rd_T45 l0 x5_1).f3) 65535 true _ A15.out).mono ?_); rintro e w' ⟨rfl, ⟨nd, rfl⟩⟩) | (go_at_call 18; (with_reducible refine (messuageref27_in.calls ((rd_T45 l0 x5_1).f4) 65535 true _ A17.out).mono ?_); rintro e w' ⟨rfl, ⟨nd, rfl⟩⟩) | (go_at_call 18; (with_reducible refine (messuageref27_in.calls ((rd_T45 l0 x5_1).f6.f0) 3 false _ A19.out).mono ?_); rintro e w' ⟨rfl, ⟨nd, rfl⟩⟩))
                          go_meet
                          case rel => exact ⟨_, (true), (by first | rfl | (simp; done) | (simp [*]; done)), H', ⟨by have := HK1.out; first | omega | exact Nat.le_refl _⟩, ⟨by (with_reducible repeat (first | apply Kd.R_alloc | apply Kd.R_drewN | apply Kd.R_drew)); exact Kd.R_mono (Kd.R_far (p := ⟨gb180, 9, none⟩) (Kd.R_far (p := ⟨gb180, 8, none⟩) (Kd.R_far (p := ⟨gb180, 7, none⟩) (Kd.R_far (p := ⟨gb180, 6, none⟩) (Kd.R_far (p := ⟨gb180, 5, none⟩) (Kd.R_far (p := ⟨gb180, 4, none⟩) (Kd.R_far (p := ⟨gb180, 3, none⟩) (Kd.R_far (p := ⟨gb180, 2, none⟩) (Kd.R_far (p := ⟨gb180, 1, none⟩) (Kd.R_far (p := ⟨gb180, 0, none⟩) (Kd.R_types HO_4.out BK180.out (by decide)) (fun _ hk => hk.2) (.int .i64 ((rd_T45 l0 x5_1).f0))) (fun _ hk => hk.2) (.int .i64 ((rd_T45 l0 x5_1).f1))) (fun _ hk => hk.2) (.int .i64 ((rd_T45 l0 x5_1).f2))) (fun _ hk => hk.2) (.int .i64 ((rd_T45 l0 x5_1).f3))) (fun _ hk => hk.2) (.int .i64 ((rd_T45 l0 x5_1).f4))) (fun _ hk => hk.2) (.slice A179_5 ((rd_T45 l0 x5_1).f5).length c179_5)) (fun _ hk => hk.2) (.int .i64 ((rd_T45 l0 x5_1).f6.f0))) (fun _ hk => hk.2) (.int .u8 ((rd_T45 l0 x5_1).f6.f1))) (fun _ hk => hk.2) (.int .i64 ((rd_T45 l0 x5_1).f6.f2))) (fun _ hk => hk.2) (.bool ((rd_T45 l0 x5_1).f7))) (fun _ hk => trivial)⟩, ⟨by (with_reducible repeat (first | refine blk_drewN ?_ _ | refine blk_drew ?_ | refine blk_alloc ?_ _)); refine blk_put (cs := #[.int .i64 ((rd_T45 l0 x5_1).f0), .int .i64 ((rd_T45 l0 x5_1).f1), .int .i64 ((rd_T45 l0 x5_1).f2), .int .i64 ((rd_T45 l0 x5_1).f3), .int .i64 ((rd_T45 l0 x5_1).f4), .slice A179_5 ((rd_T45 l0 x5_1).f5).length c179_5, .int .i64 ((rd_T45 l0 x5_1).f6.f0), .int .u8 ((rd_T45 l0 x5_1).f6.f1), .int .i64 ((rd_T45 l0 x5_1).f6.f2), .bool false]) ?_ 9 _ rfl; (with_reducible repeat (first | refine blk_drewN ?_ _ | refine blk_drew ?_ | refine blk_alloc ?_ _)); refine blk_put (cs := #[.int .i64 ((rd_T45 l0 x5_1).f0), .int .i64 ((rd_T45 l0 x5_1).f1), .int .i64 ((rd_T45 l0 x5_1).f2), .int .i64 ((rd_T45 l0 x5_1).f3), .int .i64 ((rd_T45 l0 x5_1).f4), .slice A179_5 ((rd_T45 l0 x5_1).f5).length c179_5, .int .i64 ((rd_T45 l0 x5_1).f6.f0), .int .u8 ((rd_T45 l0 x5_1).f6.f1), .int .i64 0, .bool false]) ?_ 8 _ rfl; (with_reducible repeat (first | refine blk_drewN ?_ _ | refine blk_drew ?_ | refine blk_alloc ?_ _)); refine blk_put (cs := #[.int .i64 ((rd_T45 l0 x5_1).f0), .int .i64 ((rd_T45 l0 x5_1).f1), .int .i64 ((rd_T45 l0 x5_1).f2), .int .i64 ((rd_T45 l0 x5_1).f3), .int .i64 ((rd_T45 l0 x5_1).f4), .slice A179_5 ((rd_T45 l0 x5_1).f5).length c179_5, .int .i64 ((rd_T45 l0 x5_1).f6.f0), .int .u8 0, .int .i64 0, .bool false]) ?_ 7 _ rfl; (with_reducible repeat (first | refine blk_drewN ?_ _ | refine blk_drew ?_ | refine blk_alloc ?_ _)); refine blk_put (cs := #[.int .i64 ((rd_T45 l0 x5_1).f0), .int .i64 ((rd_T45 l0 x5_1).f1), .int .i64 ((rd_T45 l0 x5_1).f2), .int .i64 ((rd_T45 l0 x5_1).f3), .int .i64 ((rd_T45 l0 x5_1).f4), .slice A179_5 ((rd_T45 l0 x5_1).f5).length c179_5, .int .i64 0, .int .u8 0, .int .i64 0, .bool false]) ?_ 6 _ rfl; (with_reducible repeat (first | refine blk_drewN ?_ _ | refine blk_drew ?_ | refine blk_alloc ?_ _)); refine blk_put (cs := #[.int .i64 ((rd_T45 l0 x5_1).f0), .int .i64 ((rd_T45 l0 x5_1).f1), .int .i64 ((rd_T45 l0 x5_1).f2), .int .i64 ((rd_T45 l0 x5_1).f3), .int .i64 ((rd_T45 l0 x5_1).f4), .slice none 0 0, .int .i64 0, .int .u8 0, .int .i64 0, .bool false]) ?_ 5 _ rfl; (with_reducible repeat (first | refine blk_drewN ?_ _ | refine blk_drew ?_ | refine blk_alloc ?_ _)); refine blk_put (cs := #[.int .i64 ((rd_T45 l0 x5_1).f0), .int .i64 ((rd_T45 l0 x5_1).f1), .int .i64 ((rd_T45 l0 x5_1).f2), .int .i64 ((rd_T45 l0 x5_1).f3), .int .i64 0, .slice none 0 0, .int .i64 0, .int .u8 0, .int .i64 0, .bool false]) ?_ 4 _ rfl; (with_reducible repeat (first | refine blk_drewN ?_ _ | refine blk_drew ?_ | refine blk_alloc ?_ _)); refine blk_put (cs := #[.int .i64 ((rd_T45 l0 x5_1).f0), .int .i64 ((rd_T45 l0 x5_1).f1), .int .i64 ((rd_T45 l0 x5_1).f2), .int .i64 0, .int .i64 0, .slice none 0 0, .int .i64 0, .int .u8 0, .int .i64 0, .bool false]) ?_ 3 _ rfl; (with_reducible repeat (first | refine blk_drewN ?_ _ | refine blk_drew ?_ | refine blk_alloc ?_ _)); refine blk_put (cs := #[.int .i64 ((rd_T45 l0 x5_1).f0), .int .i64 ((rd_T45 l0 x5_1).f1), .int .i64 0, .int .i64 0, .int .i64 0, .slice none 0 0, .int .i64 0, .int .u8 0, .int .i64 0, .bool false]) ?_ 2 _ rfl; (with_reducible repeat (first | refine blk_drewN ?_ _ | refine blk_drew ?_ | refine blk_alloc ?_ _)); refine blk_put (cs := #[.int .i64 ((rd_T45 l0 x5_1).f0), .int .i64 0, .int .i64 0, .int .i64 0, .int .i64 0, .slice none 0 0, .int .i64 0, .int .u8 0, .int .i64 0, .bool false]) ?_ 1 _ rfl; (with_reducible repeat (first | refine blk_drewN ?_ _ | refine blk_drew ?_ | refine blk_alloc ?_ _)); refine blk_put (cs := #[.int .i64 0, .int .i64 0, .int .i64 0, .int .i64 0, .int .i64 0, .slice none 0 0, .int .i64 0, .int .u8 0, .int .i64 0, .bool false]) ?_ 0 _ rfl; (with_reducible repeat (first | refine blk_drewN ?_ _ | refine blk_drew ?_ | refine blk_alloc ?_ _)); exact BK180.out⟩, ⟨by repeat (first | (with_reducible first | exact HB.out | apply below_alloc | apply pw_below_drewN | apply below_drew1 | refine below_set ?_ GE180.out) | exact HB.out)⟩⟩
                      · replace c18 := Bool.eq_false_iff.mpr c18
                        subst c18
                        have H1 : (messuageref27_Write.j1 k1 l0 x4_1 x5_1 true ((rd_T45 l0 x5_1).f0) ((rd_T45 l0 x5_1).f1) ((rd_T45 l0 x5_1).f2) ((rd_T45 l0 x5_1).f3) ((rd_T45 l0 x5_1).f4) ((rd_T45 l0 x5_1).f5) ((rd_T45 l0 x5_1).f6.f0) ((rd_T45 l0 x5_1).f6.f1) ((rd_T45 l0 x5_1).f6.f2) ((rd_T45 l0 x5_1).f7)) = some (r1, r2) := by rw [if_neg (show ¬ (false = true) by decide)] at H; exact H
                        clear H
                        have H := H1
                        clear H1
                        have H' := Aside0.mk H
                        clear H
                        have hcz26_0 : w5.cell? ⟨gb180, 0, none⟩ = some (.int .i64 0) := (blk_cell BK180.out 0).trans rfl
                        have hcz26_1 : w5.cell? ⟨gb180, 1, none⟩ = some (.int .i64 0) := (blk_cell BK180.out 1).trans rfl
                        have hcz26_2 : w5.cell? ⟨gb180, 2, none⟩ = some (.int .i64 0) := (blk_cell BK180.out 2).trans rfl
                        have hcz26_3 : w5.cell? ⟨gb180, 3, none⟩ = some (.int .i64 0) := (blk_cell BK180.out 3).trans rfl
                        have hcz26_4 : w5.cell? ⟨gb180, 4, none⟩ = some (.int .i64 0) := (blk_cell BK180.out 4).trans rfl
                        have hcz26_5 : w5.cell? ⟨gb180, 5, none⟩ = some (.slice none 0 0) := (blk_cell BK180.out 5).trans rfl
                        have hcz26_6 : w5.cell? ⟨gb180, 6, none⟩ = some (.int .i64 0) := (blk_cell BK180.out 6).trans rfl
                        have hcz26_7 : w5.cell? ⟨gb180, 7, none⟩ = some (.int .u8 0) := (blk_cell BK180.out 7).trans rfl
                        have hcz26_8 : w5.cell? ⟨gb180, 8, none⟩ = some (.int .i64 0) := (blk_cell BK180.out 8).trans rfl
                        have hcz26_9 : w5.cell? ⟨gb180, 9, none⟩ = some (.bool false) := (blk_cell BK180.out 9).trans rfl
                        have hfz26_0 := blk_frozen BK180.out 0
                        have hfz26_1 := blk_frozen BK180.out 1
                        have hfz26_2 := blk_frozen BK180.out 2
                        have hfz26_3 := blk_frozen BK180.out 3
                        have hfz26_4 := blk_frozen BK180.out 4
                        have hfz26_5 := blk_frozen BK180.out 5
                        have hfz26_6 := blk_frozen BK180.out 6
                        have hfz26_7 := blk_frozen BK180.out 7
                        have hfz26_8 := blk_frozen BK180.out 8
                        have hfz26_9 := blk_frozen BK180.out 9
                        go_wp2_with (first | (go_at_call 18; (with_reducible refine (messuageref27_in.calls ((rd_T45 l0 x5_1).f0) 12 true _ A9.out).mono ?_); rintro e w' ⟨rfl, ⟨nd, rfl⟩⟩) | (go_at_call 18; (with_reducible refine (messuageref27_in.calls ((rd_T45 l0 x5_1).f1) 255 true _ A11.out).mono ?_); rintro e w' ⟨rfl, ⟨nd, rfl⟩⟩) | (go_at_call 18; (with_reducible refine (messuageref27_in.calls ((rd_T45 l0 x5_1).f2) 65535 true _ A13.out).mono ?_); rintro e w' ⟨rfl, ⟨nd, rfl⟩⟩) | (go_at_call 18; (with_reducible refine (messuageref27_in.calls ((rd_T45 l0 x5_1).f3) 65535 true _ A15.out).mono ?_); rintro e w' ⟨rfl, ⟨nd, rfl⟩⟩) | (go_at_call 18; (with_reducible refine (messuageref27_in.calls ((rd_T45 l0 x5_1).f4) 65535 false _ A17.out).mono ?_); rintro e w' ⟨rfl, ⟨nd, rfl⟩⟩))
                        go_meet
                        case rel => exact ⟨_, (true), (by first | rfl | (simp; done) | (simp [*]; done)), H', ⟨by have := HK1.out; first | omega | exact Nat.le_refl _⟩, ⟨by (with_reducible repeat (first | apply Kd.R_alloc | apply Kd.R_drewN | apply Kd.R_drew)); exact Kd.R_mono (Kd.R_far (p := ⟨gb180, 9, none⟩) (Kd.R_far (p := ⟨gb180, 8, none⟩) (Kd.R_far (p := ⟨gb180, 7, none⟩) (Kd.R_far (p := ⟨gb180, 6, none⟩) (Kd.R_far (p := ⟨gb180, 5, none⟩) (Kd.R_far (p := ⟨gb180, 4, none⟩) (Kd.R_far (p := ⟨gb180, 3, none⟩) (Kd.R_far (p := ⟨gb180, 2, none⟩) (Kd.R_far (p := ⟨gb180, 1, none⟩) (Kd.R_far (p := ⟨gb180, 0, none⟩) (Kd.R_types HO_4.out BK180.out (by decide)) (fun _ hk => hk.2) (.int .i64 ((rd_T45 l0 x5_1).f0))) (fun _ hk => hk.2) (.int .i64 ((rd_T45 l0 x5_1).f1))) (fun _ hk => hk.2) (.int .i64 ((rd_T45 l0 x5_1).f2))) (fun _ hk => hk.2) (.int .i64 ((rd_T45 l0 x5_1).f3))) (fun _ hk => hk.2) (.int .i64 ((rd_T45 l0 x5_1).f4))) (fun _ hk => hk.2) (.slice A179_5 ((rd_T45 l0 x5_1).f5).length c179_5)) (fun _ hk => hk.2) (.int .i64 ((rd_T45 l0 x5_1).f6.f0))) (fun _ hk => hk.2) (.int .u8 ((rd_T45 l0 x5_1).f6.f1))) (fun _ hk => hk.2) (.int .i64 ((rd_T45 l0 x5_1).f6.f2))) (fun _ hk => hk.2) (.bool ((rd_T45 l0 x5_1).f7))) (fun _ hk => trivial)⟩, ⟨by (with_reducible repeat (first | refine blk_drewN ?_ _ | refine blk_drew ?_ | refine blk_alloc ?_ _)); refine blk_put (cs := #[.int .i64 ((rd_T45 l0 x5_1).f0), .int .i64 ((rd_T45 l0 x5_1).f1), .int .i64 ((rd_T45 l0 x5_1).f2), .int .i64 ((rd_T45 l0 x5_1).f3), .int .i64 ((rd_T45 l0 x5_1).f4), .slice A179_5 ((rd_T45 l0 x5_1).f5).length c179_5, .int .i64 ((rd_T45 l0 x5_1).f6.f0), .int .u8 ((rd_T45 l0 x5_1).f6.f1), .int .i64 ((rd_T45 l0 x5_1).f6.f2), .bool false]) ?_ 9 _ rfl; (with_reducible repeat (first | refine blk_drewN ?_ _ | refine blk_drew ?_ | refine blk_alloc ?_ _)); refine blk_put (cs := #[.int .i64 ((rd_T45 l0 x5_1).f0), .int .i64 ((rd_T45 l0 x5_1).f1), .int .i64 ((rd_T45 l0 x5_1).f2), .int .i64 ((rd_T45 l0 x5_1).f3), .int .i64 ((rd_T45 l0 x5_1).f4), .slice A179_5 ((rd_T45 l0 x5_1).f5).length c179_5, .int .i64 ((rd_T45 l0 x5_1).f6.f0), .int .u8 ((rd_T45 l0 x5_1).f6.f1), .int .i64 0, .bool false]) ?_ 8 _ rfl; (with_reducible repeat (first | refine blk_drewN ?_ _ | refine blk_drew ?_ | refine blk_alloc ?_ _)); refine blk_put (cs := #[.int .i64 ((rd_T45 l0 x5_1).f0), .int .i64 ((rd_T45 l0 x5_1).f1), .int .i64 ((rd_T45 l0 x5_1).f2), .int .i64 ((rd_T45 l0 x5_1).f3), .int .i64 ((rd_T45 l0 x5_1).f4), .slice A179_5 ((rd_T45 l0 x5_1).f5).length c179_5, .int .i64 ((rd_T45 l0 x5_1).f6.f0), .int .u8 0, .int .i64 0, .bool false]) ?_ 7 _ rfl; (with_reducible repeat (first | refine blk_drewN ?_ _ | refine blk_drew ?_ | refine blk_alloc ?_ _)); refine blk_put (cs := #[.int .i64 ((rd_T45 l0 x5_1).f0), .int .i64 ((rd_T45 l0 x5_1).f1), .int .i64 ((rd_T45 l0 x5_1).f2), .int .i64 ((rd_T45 l0 x5_1).f3), .int .i64 ((rd_T45 l0 x5_1).f4), .slice A179_5 ((rd_T45 l0 x5_1).f5).length c179_5, .int .i64 0, .int .u8 0, .int .i64 0, .bool false]) ?_ 6 _ rfl; (with_reducible repeat (first | refine blk_drewN ?_ _ | refine blk_drew ?_ | refine blk_alloc ?_ _)); refine blk_put (cs := #[.int .i64 ((rd_T45 l0 x5_1).f0), .int .i64 ((rd_T45 l0 x5_1).f1), .int .i64 ((rd_T45 l0 x5_1).f2), .int .i64 ((rd_T45 l0 x5_1).f3), .int .i64 ((rd_T45 l0 x5_1).f4), .slice none 0 0, .int .i64 0, .int .u8 0, .int .i64 0, .bool false]) ?_ 5 _ rfl; (with_reducible repeat (first | refine blk_drewN ?_ _ | refine blk_drew ?_ | refine blk_alloc ?_ _)); refine blk_put (cs := #[.int .i64 ((rd_T45 l0 x5_1).f0), .int .i64 ((rd_T45 l0 x5_1).f1), .int .i64 ((rd_T45 l0 x5_1).f2), .int .i64 ((rd_T45 l0 x5_1).f3), .int .i64 0, .slice none 0 0, .int .i64 0, .int .u8 0, .int .i64 0, .bool false]) ?_ 4 _ rfl; (with_reducible repeat (first | refine blk_drewN ?_ _ | refine blk_drew ?_ | refine blk_alloc ?_ _)); refine blk_put (cs := #[.int .i64 ((rd_T45 l0 x5_1).f0), .int .i64 ((rd_T45 l0 x5_1).f1), .int .i64 ((rd_T45 l0 x5_1).f2), .int .i64 0, .int .i64 0, .slice none 0 0, .int .i64 0, .int .u8 0, .int .i64 0, .bool false]) ?_ 3 _ rfl; (with_reducible repeat (first | refine blk_drewN ?_ _ | refine blk_drew ?_ | refine blk_alloc ?_ _)); refine blk_put (cs := #[.int .i64 ((rd_T45 l0 x5_1).f0), .int .i64 ((rd_T45 l0 x5_1).f1), .int .i64 0, .int .i64 0, .int .i64 0, .slice none 0 0, .int .i64 0, .int .u8 0, .int .i64 0, .bool false]) ?_ 2 _ rfl; (with_reducible repeat (first | refine blk_drewN ?_ _ | refine blk_drew ?_ | refine blk_alloc ?_ _)); refine blk_put (cs := #[.int .i64 ((rd_T45 l0 x5_1).f0), .int .i64 0, .int .i64 0, .int .i64 0, .int .i64 0, .slice none 0 0, .int .i64 0, .int .u8 0, .int .i64 0, .bool false]) ?_ 1 _ rfl; (with_reducible repeat (first | refine blk_drewN ?_ _ | refine blk_drew ?_ | refine blk_alloc ?_ _)); refine blk_put (cs := #[.int .i64 0, .int .i64 0, .int .i64 0, .int .i64 0, .int .i64 0, .slice none 0 0, .int .i64 0, .int .u8 0, .int .i64 0, .bool false]) ?_ 0 _ rfl; (with_reducible repeat (first | refine blk_drewN ?_ _ | refine blk_drew ?_ | refine blk_alloc ?_ _)); exact BK180.out⟩, ⟨by repeat (first | (with_reducible first | exact HB.out | apply below_alloc | apply pw_below_drewN | apply below_drew1 | refine below_set ?_ GE180.out) | exact HB.out)⟩⟩
                    · replace c16 := Bool.eq_false_iff.mpr c16
                      subst c16
                      have H1 : (messuageref27_Write.j1 k1 l0 x4_1 x5_1 true ((rd_T45 l0 x5_1).f0) ((rd_T45 l0 x5_1).f1) ((rd_T45 l0 x5_1).f2) ((rd_T45 l0 x5_1).f3) ((rd_T45 l0 x5_1).f4) ((rd_T45 l0 x5_1).f5) ((rd_T45 l0 x5_1).f6.f0) ((rd_T45 l0 x5_1).f6.f1) ((rd_T45 l0 x5_1).f6.f2) ((rd_T45 l0 x5_1).f7)) = some (r1, r2) := by rw [if_neg (show ¬ (false = true) by decide)] at H; exact H
                      clear H
                      have H := H1
                      clear H1
                      have H' := Aside0.mk H
                      clear H
                      have hcz27_0 : w5.cell? ⟨gb180, 0, none⟩ = some (.int .i64 0) := (blk_cell BK180.out 0).trans rfl
                      have hcz27_1 : w5.cell? ⟨gb180, 1, none⟩ = some (.int .i64 0) := (blk_cell BK180.out 1).trans rfl
                      have hcz27_2 : w5.cell? ⟨gb180, 2, none⟩ = some (.int .i64 0) := (blk_cell BK180.out 2).trans rfl
                      have hcz27_3 : w5.cell? ⟨gb180, 3, none⟩ = some (.int .i64 0) := (blk_cell BK180.out 3).trans rfl
                      have hcz27_4 : w5.cell? ⟨gb180, 4, none⟩ = some (.int .i64 0) := (blk_cell BK180.out 4).trans rfl
                      have hcz27_5 : w5.cell? ⟨gb180, 5, none⟩ = some (.slice none 0 0) := (blk_cell BK180.out 5).trans rfl
                      have hcz27_6 : w5.cell? ⟨gb180, 6, none⟩ = some (.int .i64 0) := (blk_cell BK180.out 6).trans rfl
                      have hcz27_7 : w5.cell? ⟨gb180, 7, none⟩ = some (.int .u8 0) := (blk_cell BK180.out 7).trans rfl
                      have hcz27_8 : w5.cell? ⟨gb180, 8, none⟩ = some (.int .i64 0) := (blk_cell BK180.out 8).trans rfl
                      have hcz27_9 : w5.cell? ⟨gb180, 9, none⟩ = some (.bool false) := (blk_cell BK180.out 9).trans rfl
                      have hfz27_0 := blk_frozen BK180.out 0
                      have hfz27_1 := blk_frozen BK180.out 1
                      have hfz27_2 := blk_frozen BK180.out 2
                      have hfz27_3 := blk_frozen BK180.out 3
                      have hfz27_4 := blk_frozen BK180.out 4
                      have hfz27_5 := blk_frozen BK180.out 5
                      have hfz27_6 := blk_frozen BK180.out 6
                      have hfz27_7 := blk_frozen BK180.out 7
                      have hfz27_8 := blk_frozen BK180.out 8
                      have hfz27_9 := blk_frozen BK180.out 9
                      go_wp2_with (first | (go_at_call 18; (with_reducible refine (messuageref27_in.calls ((rd_T45 l0 x5_1).f0) 12 true _ A9.out).mono ?_); rintro e w' ⟨rfl, ⟨nd, rfl⟩⟩) | (go_at_call 18; (with_reducible refine (messuageref27_in.calls ((rd_T45 l0 x5_1).f1) 255 true _ A11.out).mono ?_); rintro e w' ⟨rfl, ⟨nd, rfl⟩⟩) | (go_at_call 18; (with_reducible refine (messuageref27_in.calls ((rd_T45 l0 x5_1).f2) 65535 true _ A13.out).mono ?_); rintro e w' ⟨rfl, ⟨nd, rfl⟩⟩) | (go_at_call 18; (with_reducible refine (messuageref27_in.calls ((rd_T45 l0 x5_1).f3) 65535 false _ A15.out).mono ?_); rintro e w' ⟨rfl, ⟨nd, rfl⟩⟩))
                      go_meet
                      case rel => exact ⟨_, (true), (by first | rfl | (simp; done) | (simp [*]; done)), H', ⟨by have := HK1.out; first | omega | exact Nat.le_refl _⟩, ⟨by (with_reducible repeat (first | apply Kd.R_alloc | apply Kd.R_drewN | apply Kd.R_drew)); exact Kd.R_mono (Kd.R_far (p := ⟨gb180, 9, none⟩) (Kd.R_far (p := ⟨gb180, 8, none⟩) (Kd.R_far (p := ⟨gb180, 7, none⟩) (Kd.R_far (p := ⟨gb180, 6, none⟩) (Kd.R_far (p := ⟨gb180, 5, none⟩) (Kd.R_far (p := ⟨gb180, 4, none⟩) (Kd.R_far (p := ⟨gb180, 3, none⟩) (Kd.R_far (p := ⟨gb180, 2, none⟩) (Kd.R_far (p := ⟨gb180, 1, none⟩) (Kd.R_far (p := ⟨gb180, 0, none⟩) (Kd.R_types HO_4.out BK180.out (by decide)) (fun _ hk => hk.2) (.int .i64 ((rd_T45 l0 x5_1).f0))) (fun _ hk => hk.2) (.int .i64 ((rd_T45 l0 x5_1).f1))) (fun _ hk => hk.2) (.int .i64 ((rd_T45 l0 x5_1).f2))) (fun _ hk => hk.2) (.int .i64 ((rd_T45 l0 x5_1).f3))) (fun _ hk => hk.2) (.int .i64 ((rd_T45 l0 x5_1).f4))) (fun _ hk => hk.2) (.slice A179_5 ((rd_T45 l0 x5_1).f5).length c179_5)) (fun _ hk => hk.2) (.int .i64 ((rd_T45 l0 x5_1).f6.f0))) (fun _ hk => hk.2) (.int .u8 ((rd_T45 l0 x5_1).f6.f1))) (fun _ hk => hk.2) (.int .i64 ((rd_T45 l0 x5_1).f6.f2))) (fun _ hk => hk.2) (.bool ((rd_T45 l0 x5_1).f7))) (fun _ hk => trivial)⟩, ⟨by (with_reducible repeat (first | refine blk_drewN ?_ _ | refine blk_drew ?_ | refine blk_alloc ?_ _)); refine blk_put (cs := #[.int .i64 ((rd_T45 l0 x5_1).f0), .int .i64 ((rd_T45 l0 x5_1).f1), .int .i64 ((rd_T45 l0 x5_1).f2), .int .i64 ((rd_T45 l0 x5_1).f3), .int .i64 ((rd_T45 l0 x5_1).f4), .slice A179_5 ((rd_T45 l0 x5_1).f5).length c179_5, .int .i64 ((rd_T45 l0 x5_1).f6.f0), .int .u8 ((rd_T45 l0 x5_1).f6.f1), .int .i64 ((rd_T45 l0 x5_1).f6.f2), .bool false]) ?_ 9 _ rfl; (with_reducible repeat (first | refine blk_drewN ?_ _ | refine blk_drew ?_ | refine blk_alloc ?_ _)); refine blk_put (cs := #[.int .i64 ((rd_T45 l0 x5_1).f0), .int .i64 ((rd_T45 l0 x5_1).f1), .int .i64 ((rd_T45 l0 x5_1).f2), .int .i64 ((rd_T45 l0 x5_1).f3), .int .i64 ((rd_T45 l0 x5_1).f4), .slice A179_5 ((rd_T45 l0 x5_1).f5).length c179_5, .int .i64 ((rd_T45 l0 x5_1).f6.f0), .int .u8 ((rd_T45 l0 x5_1).f6.f1), .int .i64 0, .bool false]) ?_ 8 _ rfl; (with_reducible repeat (first | refine blk_drewN ?_ _ | refine blk_drew ?_ | refine blk_alloc ?_ _)); refine blk_put (cs := #[.int .i64 ((rd_T45 l0 x5_1).f0), .int .i64 ((rd_T45 l0 x5_1).f1), .int .i64 ((rd_T45 l0 x5_1).f2), .int .i64 ((rd_T45 l0 x5_1).f3), .int .i64 ((rd_T45 l0 x5_1).f4), .slice A179_5 ((rd_T45 l0 x5_1).f5).length c179_5, .int .i64 ((rd_T45 l0 x5_1).f6.f0), .int .u8 0, .int .i64 0, .bool false]) ?_ 7 _ rfl; (with_reducible repeat (first | refine blk_drewN ?_ _ | refine blk_drew ?_ | refine blk_alloc ?_ _)); refine blk_put (cs := #[.int .i64 ((rd_T45 l0 x5_1).f0), .int .i64 ((rd_T45 l0 x5_1).f1), .int .i64 ((rd_T45 l0 x5_1).f2), .int .i64 ((rd_T45 l0 x5_1).f3), .int .i64 ((rd_T45 l0 x5_1).f4), .slice A179_5 ((rd_T45 l0 x5_1).f5).length c179_5, .int .i64 0, .int .u8 0, .int .i64 0, .bool false]) ?_ 6 _ rfl; (with_reducible repeat (first | refine blk_drewN ?_ _ | refine blk_drew ?_ | refine blk_alloc ?_ _)); refine blk_put (cs := #[.int .i64 ((rd_T45 l0 x5_1).f0), .int .i64 ((rd_T45 l0 x5_1).f1), .int .i64 ((rd_T45 l0 x5_1).f2), .int .i64 ((rd_T45 l0 x5_1).f3), .int .i64 ((rd_T45 l0 x5_1).f4), .slice none 0 0, .int .i64 0, .int .u8 0, .int .i64 0, .bool false]) ?_ 5 _ rfl; (with_reducible repeat (first | refine blk_drewN ?_ _ | refine blk_drew ?_ | refine blk_alloc ?_ _)); refine blk_put (cs := #[.int .i64 ((rd_T45 l0 x5_1).f0), .int .i64 ((rd_T45 l0 x5_1).f1), .int .i64 ((rd_T45 l0 x5_1).f2), .int .i64 ((rd_T45 l0 x5_1).f3), .int .i64 0, .slice none 0 0, .int .i64 0, .int .u8 0, .int .i64 0, .bool false]) ?_ 4 _ rfl; (with_reducible repeat (first | refine blk_drewN ?_ _ | refine blk_drew ?_ | refine blk_alloc ?_ _)); refine blk_put (cs := #[.int .i64 ((rd_T45 l0 x5_1).f0), .int .i64 ((rd_T45 l0 x5_1).f1), .int .i64 ((rd_T45 l0 x5_1).f2), .int .i64 0, .int .i64 0, .slice none 0 0, .int .i64 0, .int .u8 0, .int .i64 0, .bool false]) ?_ 3 _ rfl; (with_reducible repeat (first | refine blk_drewN ?_ _ | refine blk_drew ?_ | refine blk_alloc ?_ _)); refine blk_put (cs := #[.int .i64 ((rd_T45 l0 x5_1).f0), .int .i64 ((rd_T45 l0 x5_1).f1), .int .i64 0, .int .i64 0, .int .i64 0, .slice none 0 0, .int .i64 0, .int .u8 0, .int .i64 0, .bool false]) ?_ 2 _ rfl; (with_reducible repeat (first | refine blk_drewN ?_ _ | refine blk_drew ?_ | refine blk_alloc ?_ _)); refine blk_put (cs := #[.int .i64 ((rd_T45 l0 x5_1).f0), .int .i64 0, .int .i64 0, .int .i64 0, .int .i64 0, .slice none 0 0, .int .i64 0, .int .u8 0, .int .i64 0, .bool false]) ?_ 1 _ rfl; (with_reducible repeat (first | refine blk_drewN ?_ _ | refine blk_drew ?_ | refine blk_alloc ?_ _)); refine blk_put (cs := #[.int .i64 0, .int .i64 0, .int .i64 0, .int .i64 0, .int .i64 0, .slice none 0 0, .int .i64 0, .int .u8 0, .int .i64 0, .bool false]) ?_ 0 _ rfl; (with_reducible repeat (first | refine blk_drewN ?_ _ | refine blk_drew ?_ | refine blk_alloc ?_ _)); exact BK180.out⟩, ⟨by repeat (first | (with_reducible first | exact HB.out | apply below_alloc | apply pw_below_drewN | apply below_drew1 | refine below_set ?_ GE180.out) | exact HB.out)⟩⟩
                  · replace c14 := Bool.eq_false_iff.mpr c14
                    subst c14
                    have H1 : (messuageref27_Write.j1 k1 l0 x4_1 x5_1 true ((rd_T45 l0 x5_1).f0) ((rd_T45 l0 x5_1).f1) ((rd_T45 l0 x5_1).f2) ((rd_T45 l0 x5_1).f3) ((rd_T45 l0 x5_1).f4) ((rd_T45 l0 x5_1).f5) ((rd_T45 l0 x5_1).f6.f0) ((rd_T45 l0 x5_1).f6.f1) ((rd_T45 l0 x5_1).f6.f2) ((rd_T45 l0 x5_1).f7)) = some (r1, r2) := by rw [if_neg (show ¬ (false = true) by decide)] at H; exact H
                    clear H
                    have H := H1
                    clear H1
                    have H' := Aside0.mk H
                    clear H
                    have hcz28_0 : w5.cell? ⟨gb180, 0, none⟩ = some (.int .i64 0) := (blk_cell BK180.out 0).trans rfl
                    have hcz28_1 : w5.cell? ⟨gb180, 1, none⟩ = some (.int .i64 0) := (blk_cell BK180.out 1).trans rfl
                    have hcz28_2 : w5.cell? ⟨gb180, 2, none⟩ = some (.int .i64 0) := (blk_cell BK180.out 2).trans rfl
                    have hcz28_3 : w5.cell? ⟨gb180, 3, none⟩ = some (.int .i64 0) := (blk_cell BK180.out 3).trans rfl
                    have hcz28_4 : w5.cell? ⟨gb180, 4, none⟩ = some (.int .i64 0) := (blk_cell BK180.out 4).trans rfl
                    have hcz28_5 : w5.cell? ⟨gb180, 5, none⟩ = some (.slice none 0 0) := (blk_cell BK180.out 5).trans rfl
                    have hcz28_6 : w5.cell? ⟨gb180, 6, none⟩ = some (.int .i64 0) := (blk_cell BK180.out 6).trans rfl
                    have hcz28_7 : w5.cell? ⟨gb180, 7, none⟩ = some (.int .u8 0) := (blk_cell BK180.out 7).trans rfl
                    have hcz28_8 : w5.cell? ⟨gb180, 8, none⟩ = some (.int .i64 0) := (blk_cell BK180.out 8).trans rfl
                    have hcz28_9 : w5.cell? ⟨gb180, 9, none⟩ = some (.bool false) := (blk_cell BK180.out 9).trans rfl
                    have hfz28_0 := blk_frozen BK180.out 0
                    have hfz28_1 := blk_frozen BK180.out 1
                    have hfz28_2 := blk_frozen BK180.out 2
                    have hfz28_3 := blk_frozen BK180.out 3
                    have hfz28_4 := blk_frozen BK180.out 4
                    have hfz28_5 := blk_frozen BK180.out 5
                    have hfz28_6 := blk_frozen BK180.out 6
                    have hfz28_7 := blk_frozen BK180.out 7
                    have hfz28_8 := blk_frozen BK180.out 8
                    have hfz28_9 := blk_frozen BK180.out 9
                    go_wp2_with (first | (go_at_call 18; (with_reducible refine (messuageref27_in.calls ((rd_T45 l0 x5_1).f0) 12 true _ A9.out).mono ?_); rintro e w' ⟨rfl, ⟨nd, rfl⟩⟩) | (go_at_call 18; (with_reducible refine (messuageref27_in.calls ((rd_T45 l0 x5_1).f1) 255 true _ A11.out).mono ?_); rintro e w' ⟨rfl, ⟨nd, rfl⟩⟩) | (go_at_call 18; (with_reducible refine (messuageref27_in.calls ((rd_T45 l0 x5_1).f2) 65535 false _ A13.out).mono ?_); rintro e w' ⟨rfl, ⟨nd, rfl⟩⟩))
                    go_meet
                    case rel => exact ⟨_, (true), (by first | rfl | (simp; done) | (simp [*]; done)), H', ⟨by have := HK1.out; first | omega | exact Nat.le_refl _⟩, ⟨by (with_reducible repeat (first | apply Kd.R_alloc | apply Kd.R_drewN | apply Kd.R_drew)); exact Kd.R_mono (Kd.R_far (p := ⟨gb180, 9, none⟩) (Kd.R_far (p := ⟨gb180, 8, none⟩) (Kd.R_far (p := ⟨gb180, 7, none⟩) (Kd.R_far (p := ⟨gb180, 6, none⟩) (Kd.R_far (p := ⟨gb180, 5, none⟩) (Kd.R_far (p := ⟨gb180, 4, none⟩) (Kd.R_far (p := ⟨gb180, 3, none⟩) (Kd.R_far (p := ⟨gb180, 2, none⟩) (Kd.R_far (p := ⟨gb180, 1, none⟩) (Kd.R_far (p := ⟨gb180, 0, none⟩) (Kd.R_types HO_4.out BK180.out (by decide)) (fun _ hk => hk.2) (.int .i64 ((rd_T45 l0 x5_1).f0))) (fun _ hk => hk.2) (.int .i64 ((rd_T45 l0 x5_1).f1))) (fun _ hk => hk.2) (.int .i64 ((rd_T45 l0 x5_1).f2))) (fun _ hk => hk.2) (.int .i64 ((rd_T45 l0 x5_1).f3))) (fun _ hk => hk.2) (.int .i64 ((rd_T45 l0 x5_1).f4))) (fun _ hk => hk.2) (.slice A179_5 ((rd_T45 l0 x5_1).f5).length c179_5)) (fun _ hk => hk.2) (.int .i64 ((rd_T45 l0 x5_1).f6.f0))) (fun _ hk => hk.2) (.int .u8 ((rd_T45 l0 x5_1).f6.f1))) (fun _ hk => hk.2) (.int .i64 ((rd_T45 l0 x5_1).f6.f2))) (fun _ hk => hk.2) (.bool ((rd_T45 l0 x5_1).f7))) (fun _ hk => trivial)⟩, ⟨by (with_reducible repeat (first | refine blk_drewN ?_ _ | refine blk_drew ?_ | refine blk_alloc ?_ _)); refine blk_put (cs := #[.int .i64 ((rd_T45 l0 x5_1).f0), .int .i64 ((rd_T45 l0 x5_1).f1), .int .i64 ((rd_T45 l0 x5_1).f2), .int .i64 ((rd_T45 l0 x5_1).f3), .int .i64 ((rd_T45 l0 x5_1).f4), .slice A179_5 ((rd_T45 l0 x5_1).f5).length c179_5, .int .i64 ((rd_T45 l0 x5_1).f6.f0), .int .u8 ((rd_T45 l0 x5_1).f6.f1), .int .i64 ((rd_T45 l0 x5_1).f6.f2), .bool false]) ?_ 9 _ rfl; (with_reducible repeat (first | refine blk_drewN ?_ _ | refine blk_drew ?_ | refine blk_alloc ?_ _)); refine blk_put (cs := #[.int .i64 ((rd_T45 l0 x5_1).f0), .int .i64 ((rd_T45 l0 x5_1).f1), .int .i64 ((rd_T45 l0 x5_1).f2), .int .i64 ((rd_T45 l0 x5_1).f3), .int .i64 ((rd_T45 l0 x5_1).f4), .slice A179_5 ((rd_T45 l0 x5_1).f5).length c179_5, .int .i64 ((rd_T45 l0 x5_1).f6.f0), .int .u8 ((rd_T45 l0 x5_1).f6.f1), .int .i64 0, .bool false]) ?_ 8 _ rfl; (with_reducible repeat (first | refine blk_drewN ?_ _ | refine blk_drew ?_ | refine blk_alloc ?_ _)); refine blk_put (cs := #[.int .i64 ((rd_T45 l0 x5_1).f0), .int .i64 ((rd_T45 l0 x5_1).f1), .int .i64 ((rd_T45 l0 x5_1).f2), .int .i64 ((rd_T45 l0 x5_1).f3), .int .i64 ((rd_T45 l0 x5_1).f4), .slice A179_5 ((rd_T45 l0 x5_1).f5).length c179_5, .int .i64 ((rd_T45 l0 x5_1).f6.f0), .int .u8 0, .int .i64 0, .bool false]) ?_ 7 _ rfl; (with_reducible repeat (first | refine blk_drewN ?_ _ | refine blk_drew ?_ | refine blk_alloc ?_ _)); refine blk_put (cs := #[.int .i64 ((rd_T45 l0 x5_1).f0), .int .i64 ((rd_T45 l0 x5_1).f1), .int .i64 ((rd_T45 l0 x5_1).f2), .int .i64 ((rd_T45 l0 x5_1).f3), .int .i64 ((rd_T45 l0 x5_1).f4), .slice A179_5 ((rd_T45 l0 x5_1).f5).length c179_5, .int .i64 0, .int .u8 0, .int .i64 0, .bool false]) ?_ 6 _ rfl; (with_reducible repeat (first | refine blk_drewN ?_ _ | refine blk_drew ?_ | refine blk_alloc ?_ _)); refine blk_put (cs := #[.int .i64 ((rd_T45 l0 x5_1).f0), .int .i64 ((rd_T45 l0 x5_1).f1), .int .i64 ((rd_T45 l0 x5_1).f2), .int .i64 ((rd_T45 l0 x5_1).f3), .int .i64 ((rd_T45 l0 x5_1).f4), .slice none 0 0, .int .i64 0, .int .u8 0, .int .i64 0, .bool false]) ?_ 5 _ rfl; (with_reducible repeat (first | refine blk_drewN ?_ _ | refine blk_drew ?_ | refine blk_alloc ?_ _)); refine blk_put (cs := #[.int .i64 ((rd_T45 l0 x5_1).f0), .int .i64 ((rd_T45 l0 x5_1).f1), .int .i64 ((rd_T45 l0 x5_1).f2), .int .i64 ((rd_T45 l0 x5_1).f3), .int .i64 0, .slice none 0 0, .int .i64 0, .int .u8 0, .int .i64 0, .bool false]) ?_ 4 _ rfl; (with_reducible repeat (first | refine blk_drewN ?_ _ | refine blk_drew ?_ | refine blk_alloc ?_ _)); refine blk_put (cs := #[.int .i64 ((rd_T45 l0 x5_1).f0), .int .i64 ((rd_T45 l0 x5_1).f1), .int .i64 ((rd_T45 l0 x5_1).f2), .int .i64 0, .int .i64 0, .slice none 0 0, .int .i64 0, .int .u8 0, .int .i64 0, .bool false]) ?_ 3 _ rfl; (with_reducible repeat (first | refine blk_drewN ?_ _ | refine blk_drew ?_ | refine blk_alloc ?_ _)); refine blk_put (cs := #[.int .i64 ((rd_T45 l0 x5_1).f0), .int .i64 ((rd_T45 l0 x5_1).f1), .int .i64 0, .int .i64 0, .int .i64 0, .slice none 0 0, .int .i64 0, .int .u8 0, .int .i64 0, .bool false]) ?_ 2 _ rfl; (with_reducible repeat (first | refine blk_drewN ?_ _ | refine blk_drew ?_ | refine blk_alloc ?_ _)); refine blk_put (cs := #[.int .i64 ((rd_T45 l0 x5_1).f0), .int .i64 0, .int .i64 0, .int .i64 0, .int .i64 0, .slice none 0 0, .int .i64 0, .int .u8 0, .int .i64 0, .bool false]) ?_ 1 _ rfl; (with_reducible repeat (first | refine blk_drewN ?_ _ | refine blk_drew ?_ | refine blk_alloc ?_ _)); refine blk_put (cs := #[.int .i64 0, .int .i64 0, .int .i64 0, .int .i64 0, .int .i64 0, .slice none 0 0, .int .i64 0, .int .u8 0, .int .i64 0, .bool false]) ?_ 0 _ rfl; (with_reducible repeat (first | refine blk_drewN ?_ _ | refine blk_drew ?_ | refine blk_alloc ?_ _)); exact BK180.out⟩, ⟨by repeat (first | (with_reducible first | exact HB.out | apply below_alloc | apply pw_below_drewN | apply below_drew1 | refine below_set ?_ GE180.out) | exact HB.out)⟩⟩
                · replace c12 := Bool.eq_false_iff.mpr c12
                  subst c12
                  have H1 : (messuageref27_Write.j1 k1 l0 x4_1 x5_1 true ((rd_T45 l0 x5_1).f0) ((rd_T45 l0 x5_1).f1) ((rd_T45 l0 x5_1).f2) ((rd_T45 l0 x5_1).f3) ((rd_T45 l0 x5_1).f4) ((rd_T45 l0 x5_1).f5) ((rd_T45 l0 x5_1).f6.f0) ((rd_T45 l0 x5_1).f6.f1) ((rd_T45 l0 x5_1).f6.f2) ((rd_T45 l0 x5_1).f7)) = some (r1, r2) := by rw [if_neg (show ¬ (false = true) by decide)] at H; exact H
                  clear H
                  have H := H1
                  clear H1
                  have H' := Aside0.mk H
                  clear H
                  have hcz29_0 : w5.cell? ⟨gb180, 0, none⟩ = some (.int .i64 0) := (blk_cell BK180.out 0).trans rfl
                  have hcz29_1 : w5.cell? ⟨gb180, 1, none⟩ = some (.int .i64 0) := (blk_cell BK180.out 1).trans rfl
                  have hcz29_2 : w5.cell? ⟨gb180, 2, none⟩ = some (.int .i64 0) := (blk_cell BK180.out 2).trans rfl
                  have hcz29_3 : w5.cell? ⟨gb180, 3, none⟩ = some (.int .i64 0) := (blk_cell BK180.out 3).trans rfl
                  have hcz29_4 : w5.cell? ⟨gb180, 4, none⟩ = some (.int .i64 0) := (blk_cell BK180.out 4).trans rfl
                  have hcz29_5 : w5.cell? ⟨gb180, 5, none⟩ = some (.slice none 0 0) := (blk_cell BK180.out 5).trans rfl
                  have hcz29_6 : w5.cell? ⟨gb180, 6, none⟩ = some (.int .i64 0) := (blk_cell BK180.out 6).trans rfl
                  have hcz29_7 : w5.cell? ⟨gb180, 7, none⟩ = some (.int .u8 0) := (blk_cell BK180.out 7).trans rfl
                  have hcz29_8 : w5.cell? ⟨gb180, 8, none⟩ = some (.int .i64 0) := (blk_cell BK180.out 8).trans rfl
                  have hcz29_9 : w5.cell? ⟨gb180, 9, none⟩ = some (.bool false) := (blk_cell BK180.out 9).trans rfl
                  have hfz29_0 := blk_frozen BK180.out 0
                  have hfz29_1 := blk_frozen BK180.out 1
                  have hfz29_2 := blk_frozen BK180.out 2
                  have hfz29_3 := blk_frozen BK180.out 3
                  have hfz29_4 := blk_frozen BK180.out 4
                  have hfz29_5 := blk_frozen BK180.out 5
                  have hfz29_6 := blk_frozen BK180.out 6
                  have hfz29_7 := blk_frozen BK180.out 7
                  have hfz29_8 := blk_frozen BK180.out 8
                  have hfz29_9 := blk_frozen BK180.out 9
                  go_wp2_with (first | (go_at_call 18; (with_reducible refine (messuageref27_in.calls ((rd_T45 l0 x5_1).f0) 12 true _ A9.out).mono ?_); rintro e w' ⟨rfl, ⟨nd, rfl⟩⟩) | (go_at_call 18; (with_reducible refine (messuageref27_in.calls ((rd_T45 l0 x5_1).f1) 255 false _ A11.out).mono ?_); rintro e w' ⟨rfl, ⟨nd, rfl⟩⟩))
                  go_meet
                  case rel => exact ⟨_, (true), (by first | rfl | (simp; done) | (simp [*]; done)), H', ⟨by have := HK1.out; first | omega | exact Nat.le_refl _⟩, ⟨by (with_reducible repeat (first | apply Kd.R_alloc | apply Kd.R_drewN | apply Kd.R_drew)); exact Kd.R_mono (Kd.R_far (p := ⟨gb180, 9, none⟩) (Kd.R_far (p := ⟨gb180, 8, none⟩) (Kd.R_far (p := ⟨gb180, 7, none⟩) (Kd.R_far (p := ⟨gb180, 6, none⟩) (Kd.R_far (p := ⟨gb180, 5, none⟩) (Kd.R_far (p := ⟨gb180, 4, none⟩) (Kd.R_far (p := ⟨gb180, 3, none⟩) (Kd.R_far (p := ⟨gb180, 2, none⟩) (Kd.R_far (p := ⟨gb180, 1, none⟩) (Kd.R_far (p := ⟨gb180, 0, none⟩) (Kd.R_types HO_4.out BK180.out (by decide)) (fun _ hk => hk.2) (.int .i64 ((rd_T45 l0 x5_1).f0))) (fun _ hk => hk.2) (.int .i64 ((rd_T45 l0 x5_1).f1))) (fun _ hk => hk.2) (.int .i64 ((rd_T45 l0 x5_1).f2))) (fun _ hk => hk.2) (.int .i64 ((rd_T45 l0 x5_1).f3))) (fun _ hk => hk.2) (.int .i64 ((rd_T45 l0 x5_1).f4))) (fun _ hk => hk.2) (.slice A179_5 ((rd_T45 l0 x5_1).f5).length c179_5)) (fun _ hk => hk.2) (.int .i64 ((rd_T45 l0 x5_1).f6.f0))) (fun _ hk => hk.2) (.int .u8 ((rd_T45 l0 x5_1).f6.f1))) (fun _ hk => hk.2) (.int .i64 ((rd_T45 l0 x5_1).f6.f2))) (fun _ hk => hk.2) (.bool ((rd_T45 l0 x5_1).f7))) (fun _ hk => trivial)⟩, ⟨by (with_reducible repeat (first | refine blk_drewN ?_ _ | refine blk_drew ?_ | refine blk_alloc ?_ _)); refine blk_put (cs := #[.int .i64 ((rd_T45 l0 x5_1).f0), .int .i64 ((rd_T45 l0 x5_1).f1), .int .i64 ((rd_T45 l0 x5_1).f2), .int .i64 ((rd_T45 l0 x5_1).f3), .int .i64 ((rd_T45 l0 x5_1).f4), .slice A179_5 ((rd_T45 l0 x5_1).f5).length c179_5, .int .i64 ((rd_T45 l0 x5_1).f6.f0), .int .u8 ((rd_T45 l0 x5_1).f6.f1), .int .i64 ((rd_T45 l0 x5_1).f6.f2), .bool false]) ?_ 9 _ rfl; (with_reducible repeat (first | refine blk_drewN ?_ _ | refine blk_drew ?_ | refine blk_alloc ?_ _)); refine blk_put (cs := #[.int .i64 ((rd_T45 l0 x5_1).f0), .int .i64 ((rd_T45 l0 x5_1).f1), .int .i64 ((rd_T45 l0 x5_1).f2), .int .i64 ((rd_T45 l0 x5_1).f3), .int .i64 ((rd_T45 l0 x5_1).f4), .slice A179_5 ((rd_T45 l0 x5_1).f5).length c179_5, .int .i64 ((rd_T45 l0 x5_1).f6.f0), .int .u8 ((rd_T45 l0 x5_1).f6.f1), .int .i64 0, .bool false]) ?_ 8 _ rfl; (with_reducible repeat (first | refine blk_drewN ?_ _ | refine blk_drew ?_ | refine blk_alloc ?_ _)); refine blk_put (cs := #[.int .i64 ((rd_T45 l0 x5_1).f0), .int .i64 ((rd_T45 l0 x5_1).f1), .int .i64 ((rd_T45 l0 x5_1).f2), .int .i64 ((rd_T45 l0 x5_1).f3), .int .i64 ((rd_T45 l0 x5_1).f4), .slice A179_5 ((rd_T45 l0 x5_1).f5).length c179_5, .int .i64 ((rd_T45 l0 x5_1).f6.f0), .int .u8 0, .int .i64 0, .bool false]) ?_ 7 _ rfl; (with_reducible repeat (first | refine blk_drewN ?_ _ | refine blk_drew ?_ | refine blk_alloc ?_ _)); refine blk_put (cs := #[.int .i64 ((rd_T45 l0 x5_1).f0), .int .i64 ((rd_T45 l0 x5_1).f1), .int .i64 ((rd_T45 l0 x5_1).f2), .int .i64 ((rd_T45 l0 x5_1).f3), .int .i64 ((rd_T45 l0 x5_1).f4), .slice A179_5 ((rd_T45 l0 x5_1).f5).length c179_5, .int .i64 0, .int .u8 0, .int .i64 0, .bool false]) ?_ 6 _ rfl; (with_reducible repeat (first | refine blk_drewN ?_ _ | refine blk_drew ?_ | refine blk_alloc ?_ _)); refine blk_put (cs := #[.int .i64 ((rd_T45 l0 x5_1).f0), .int .i64 ((rd_T45 l0 x5_1).f1), .int .i64 ((rd_T45 l0 x5_1).f2), .int .i64 ((rd_T45 l0 x5_1).f3), .int .i64 ((rd_T45 l0 x5_1).f4), .slice none 0 0, .int .i64 0, .int .u8 0, .int .i64 0, .bool false]) ?_ 5 _ rfl; (with_reducible repeat (first | refine blk_drewN ?_ _ | refine blk_drew ?_ | refine blk_alloc ?_ _)); refine blk_put (cs := #[.int .i64 ((rd_T45 l0 x5_1).f0), .int .i64 ((rd_T45 l0 x5_1).f1), .int .i64 ((rd_T45 l0 x5_1).f2), .int .i64 ((rd_T45 l0 x5_1).f3), .int .i64 0, .slice none 0 0, .int .i64 0, .int .u8 0, .int .i64 0, .bool false]) ?_ 4 _ rfl; (with_reducible repeat (first | refine blk_drewN ?_ _ | refine blk_drew ?_ | refine blk_alloc ?_ _)); refine blk_put (cs := #[.int .i64 ((rd_T45 l0 x5_1).f0), .int .i64 ((rd_T45 l0 x5_1).f1), .int .i64 ((rd_T45 l0 x5_1).f2), .int .i64 0, .int .i64 0, .slice none 0 0, .int .i64 0, .int .u8 0, .int .i64 0, .bool false]) ?_ 3 _ rfl; (with_reducible repeat (first | refine blk_drewN ?_ _ | refine blk_drew ?_ | refine blk_alloc ?_ _)); refine blk_put (cs := #[.int .i64 ((rd_T45 l0 x5_1).f0), .int .i64 ((rd_T45 l0 x5_1).f1), .int .i64 0, .int .i64 0, .int .i64 0, .slice none 0 0, .int .i64 0, .int .u8 0, .int .i64 0, .bool false]) ?_ 2 _ rfl; (with_reducible repeat (first | refine blk_drewN ?_ _ | refine blk_drew ?_ | refine blk_alloc ?_ _)); refine blk_put (cs := #[.int .i64 ((rd_T45 l0 x5_1).f0), .int .i64 0, .int .i64 0, .int .i64 0, .int .i64 0, .slice none 0 0, .int .i64 0, .int .u8 0, .int .i64 0, .bool false]) ?_ 1 _ rfl; (with_reducible repeat (first | refine blk_drewN ?_ _ | refine blk_drew ?_ | refine blk_alloc ?_ _)); refine blk_put (cs := #[.int .i64 0, .int .i64 0, .int .i64 0, .int .i64 0, .int .i64 0, .slice none 0 0, .int .i64 0, .int .u8 0, .int .i64 0, .bool false]) ?_ 0 _ rfl; (with_reducible repeat (first | refine blk_drewN ?_ _ | refine blk_drew ?_ | refine blk_alloc ?_ _)); exact BK180.out⟩, ⟨by repeat (first | (with_reducible first | exact HB.out | apply below_alloc | apply pw_below_drewN | apply below_drew1 | refine below_set ?_ GE180.out) | exact HB.out)⟩⟩
              · replace c10 := Bool.eq_false_iff.mpr c10
                subst c10
                have H1 : (messuageref27_Write.j1 k1 l0 x4_1 x5_1 true ((rd_T45 l0 x5_1).f0) ((rd_T45 l0 x5_1).f1) ((rd_T45 l0 x5_1).f2) ((rd_T45 l0 x5_1).f3) ((rd_T45 l0 x5_1).f4) ((rd_T45 l0 x5_1).f5) ((rd_T45 l0 x5_1).f6.f0) ((rd_T45 l0 x5_1).f6.f1) ((rd_T45 l0 x5_1).f6.f2) ((rd_T45 l0 x5_1).f7)) = some (r1, r2) := by rw [if_neg (show ¬ (false = true) by decide)] at H; exact H
                clear H
                have H := H1
                clear H1
                have H' := Aside0.mk H
                clear H
                have hcz30_0 : w5.cell? ⟨gb180, 0, none⟩ = some (.int .i64 0) := (blk_cell BK180.out 0).trans rfl
                have hcz30_1 : w5.cell? ⟨gb180, 1, none⟩ = some (.int .i64 0) := (blk_cell BK180.out 1).trans rfl
                have hcz30_2 : w5.cell? ⟨gb180, 2, none⟩ = some (.int .i64 0) := (blk_cell BK180.out 2).trans rfl
                have hcz30_3 : w5.cell? ⟨gb180, 3, none⟩ = some (.int .i64 0) := (blk_cell BK180.out 3).trans rfl
                have hcz30_4 : w5.cell? ⟨gb180, 4, none⟩ = some (.int .i64 0) := (blk_cell BK180.out 4).trans rfl
                have hcz30_5 : w5.cell? ⟨gb180, 5, none⟩ = some (.slice none 0 0) := (blk_cell BK180.out 5).trans rfl
                have hcz30_6 : w5.cell? ⟨gb180, 6, none⟩ = some (.int .i64 0) := (blk_cell BK180.out 6).trans rfl
                have hcz30_7 : w5.cell? ⟨gb180, 7, none⟩ = some (.int .u8 0) := (blk_cell BK180.out 7).trans rfl
                have hcz30_8 : w5.cell? ⟨gb180, 8, none⟩ = some (.int .i64 0) := (blk_cell BK180.out 8).trans rfl
                have hcz30_9 : w5.cell? ⟨gb180, 9, none⟩ = some (.bool false) := (blk_cell BK180.out 9).trans rfl
                have hfz30_0 := blk_frozen BK180.out 0
                have hfz30_1 := blk_frozen BK180.out 1
                have hfz30_2 := blk_frozen BK180.out 2
                have hfz30_3 := blk_frozen BK180.out 3
                have hfz30_4 := blk_frozen BK180.out 4
                have hfz30_5 := blk_frozen BK180.out 5
                have hfz30_6 := blk_frozen BK180.out 6
                have hfz30_7 := blk_frozen BK180.out 7
                have hfz30_8 := blk_frozen BK180.out 8
                have hfz30_9 := blk_frozen BK180.out 9
                go_wp2_with (first | (go_at_call 18; (with_reducible refine (messuageref27_in.calls ((rd_T45 l0 x5_1).f0) 12 false _ A9.out).mono ?_); rintro e w' ⟨rfl, ⟨nd, rfl⟩⟩))
                go_meet
                case rel => exact ⟨_, (true), (by first | rfl | (simp; done) | (simp [*]; done)), H', ⟨by have := HK1.out; first | omega | exact Nat.le_refl _⟩, ⟨by (with_reducible repeat (first | apply Kd.R_alloc | apply Kd.R_drewN | apply Kd.R_drew)); exact Kd.R_mono (Kd.R_far (p := ⟨gb180, 9, none⟩) (Kd.R_far (p := ⟨gb180, 8, none⟩) (Kd.R_far (p := ⟨gb180, 7, none⟩) (Kd.R_far (p := ⟨gb180, 6, none⟩) (Kd.R_far (p := ⟨gb180, 5, none⟩) (Kd.R_far (p := ⟨gb180, 4, none⟩) (Kd.R_far (p := ⟨gb180, 3, none⟩) (Kd.R_far (p := ⟨gb180, 2, none⟩) (Kd.R_far (p := ⟨gb180, 1, none⟩) (Kd.R_far (p := ⟨gb180, 0, none⟩) (Kd.R_types HO_4.out BK180.out (by decide)) (fun _ hk => hk.2) (.int .i64 ((rd_T45 l0 x5_1).f0))) (fun _ hk => hk.2) (.int .i64 ((rd_T45 l0 x5_1).f1))) (fun _ hk => hk.2) (.int .i64 ((rd_T45 l0 x5_1).f2))) (fun _ hk => hk.2) (.int .i64 ((rd_T45 l0 x5_1).f3))) (fun _ hk => hk.2) (.int .i64 ((rd_T45 l0 x5_1).f4))) (fun _ hk => hk.2) (.slice A179_5 ((rd_T45 l0 x5_1).f5).length c179_5)) (fun _ hk => hk.2) (.int .i64 ((rd_T45 l0 x5_1).f6.f0))) (fun _ hk => hk.2) (.int .u8 ((rd_T45 l0 x5_1).f6.f1))) (fun _ hk => hk.2) (.int .i64 ((rd_T45 l0 x5_1).f6.f2))) (fun _ hk => hk.2) (.bool ((rd_T45 l0 x5_1).f7))) (fun _ hk => trivial)⟩, ⟨by (with_reducible repeat (first | refine blk_drewN ?_ _ | refine blk_drew ?_ | refine blk_alloc ?_ _)); refine blk_put (cs := #[.int .i64 ((rd_T45 l0 x5_1).f0), .int .i64 ((rd_T45 l0 x5_1).f1), .int .i64 ((rd_T45 l0 x5_1).f2), .int .i64 ((rd_T45 l0 x5_1).f3), .int .i64 ((rd_T45 l0 x5_1).f4), .slice A179_5 ((rd_T45 l0 x5_1).f5).length c179_5, .int .i64 ((rd_T45 l0 x5_1).f6.f0), .int .u8 ((rd_T45 l0 x5_1).f6.f1), .int .i64 ((rd_T45 l0 x5_1).f6.f2), .bool false]) ?_ 9 _ rfl; (with_reducible repeat (first | refine blk_drewN ?_ _ | refine blk_drew ?_ | refine blk_alloc ?_ _)); refine blk_put (cs := #[.int .i64 ((rd_T45 l0 x5_1).f0), .int .i64 ((rd_T45 l0 x5_1).f1), .int .i64 ((rd_T45 l0 x5_1).f2), .int .i64 ((rd_T45 l0 x5_1).f3), .int .i64 ((rd_T45 l0 x5_1).f4), .slice A179_5 ((rd_T45 l0 x5_1).f5).length c179_5, .int .i64 ((rd_T45 l0 x5_1).f6.f0), .int .u8 ((rd_T45 l0 x5_1).f6.f1), .int .i64 0, .bool false]) ?_ 8 _ rfl; (with_reducible repeat (first | refine blk_drewN ?_ _ | refine blk_drew ?_ | refine blk_alloc ?_ _)); refine blk_put (cs := #[.int .i64 ((rd_T45 l0 x5_1).f0), .int .i64 ((rd_T45 l0 x5_1).f1), .int .i64 ((rd_T45 l0 x5_1).f2), .int .i64 ((rd_T45 l0 x5_1).f3), .int .i64 ((rd_T45 l0 x5_1).f4), .slice A179_5 ((rd_T45 l0 x5_1).f5).length c179_5, .int .i64 ((rd_T45 l0 x5_1).f6.f0), .int .u8 0, .int .i64 0, .bool false]) ?_ 7 _ rfl; (with_reducible repeat (first | refine blk_drewN ?_ _ | refine blk_drew ?_ | refine blk_alloc ?_ _)); refine blk_put (cs := #[.int .i64 ((rd_T45 l0 x5_1).f0), .int .i64 ((rd_T45 l0 x5_1).f1), .int .i64 ((rd_T45 l0 x5_1).f2), .int .i64 ((rd_T45 l0 x5_1).f3), .int .i64 ((rd_T45 l0 x5_1).f4), .slice A179_5 ((rd_T45 l0 x5_1).f5).length c179_5, .int .i64 0, .int .u8 0, .int .i64 0, .bool false]) ?_ 6 _ rfl; (with_reducible repeat (first | refine blk_drewN ?_ _ | refine blk_drew ?_ | refine blk_alloc ?_ _)); refine blk_put (cs := #[.int .i64 ((rd_T45 l0 x5_1).f0), .int .i64 ((rd_T45 l0 x5_1).f1), .int .i64 ((rd_T45 l0 x5_1).f2), .int .i64 ((rd_T45 l0 x5_1).f3), .int .i64 ((rd_T45 l0 x5_1).f4), .slice none 0 0, .int .i64 0, .int .u8 0, .int .i64 0, .bool false]) ?_ 5 _ rfl; (with_reducible repeat (first | refine blk_drewN ?_ _ | refine blk_drew ?_ | refine blk_alloc ?_ _)); refine blk_put (cs := #[.int .i64 ((rd_T45 l0 x5_1).f0), .int .i64 ((rd_T45 l0 x5_1).f1), .int .i64 ((rd_T45 l0 x5_1).f2), .int .i64 ((rd_T45 l0 x5_1).f3), .int .i64 0, .slice none 0 0, .int .i64 0, .int .u8 0, .int .i64 0, .bool false]) ?_ 4 _ rfl; (with_reducible repeat (first | refine blk_drewN ?_ _ | refine blk_drew ?_ | refine blk_alloc ?_ _)); refine blk_put (cs := #[.int .i64 ((rd_T45 l0 x5_1).f0), .int .i64 ((rd_T45 l0 x5_1).f1), .int .i64 ((rd_T45 l0 x5_1).f2), .int .i64 0, .int .i64 0, .slice none 0 0, .int .i64 0, .int .u8 0, .int .i64 0, .bool false]) ?_ 3 _ rfl; (with_reducible repeat (first | refine blk_drewN ?_ _ | refine blk_drew ?_ | refine blk_alloc ?_ _)); refine blk_put (cs := #[.int .i64 ((rd_T45 l0 x5_1).f0), .int .i64 ((rd_T45 l0 x5_1).f1), .int .i64 0, .int .i64 0, .int .i64 0, .slice none 0 0, .int .i64 0, .int .u8 0, .int .i64 0, .bool false]) ?_ 2 _ rfl; (with_reducible repeat (first | refine blk_drewN ?_ _ | refine blk_drew ?_ | refine blk_alloc ?_ _)); refine blk_put (cs := #[.int .i64 ((rd_T45 l0 x5_1).f0), .int .i64 0, .int .i64 0, .int .i64 0, .int .i64 0, .slice none 0 0, .int .i64 0, .int .u8 0, .int .i64 0, .bool false]) ?_ 1 _ rfl; (with_reducible repeat (first | refine blk_drewN ?_ _ | refine blk_drew ?_ | refine blk_alloc ?_ _)); refine blk_put (cs := #[.int .i64 0, .int .i64 0, .int .i64 0, .int .i64 0, .int .i64 0, .slice none 0 0, .int .i64 0, .int .u8 0, .int .i64 0, .bool false]) ?_ 0 _ rfl; (with_reducible repeat (first | refine blk_drewN ?_ _ | refine blk_drew ?_ | refine blk_alloc ?_ _)); exact BK180.out⟩, ⟨by repeat (first | (with_reducible first | exact HB.out | apply below_alloc | apply pw_below_drewN | apply below_drew1 | refine below_set ?_ GE180.out) | exact HB.out)⟩⟩
          case rest =>
            clear HC4
            try clear c1
            try clear p1
            try clear q1
            try clear hx1
            try clear c2
            try clear c2b0
            try clear p2
            try clear c3
            try clear c3b0
            try clear c7
            try clear c7b0
            try clear c9
            try clear c10
            try clear c12
            try clear c14
            try clear c16
            try clear c17
            try clear p17
            try clear q17
            try clear hx17
            try clear c18
            try clear c20
            try clear c22
            try clear hcz23_0
            try clear hcz23_1
            try clear hcz23_2
            try clear hcz23_3
            try clear hcz23_4
            try clear hcz23_5
            try clear hcz23_6
            try clear hcz23_7
            try clear hcz23_8
            try clear hcz23_9
            try clear hcz24_0
            try clear hcz24_1
            try clear hcz24_2
            try clear hcz24_3
            try clear hcz24_4
            try clear hcz24_5
            try clear hcz24_6
            try clear hcz24_7
            try clear hcz24_8
            try clear hcz24_9
            try clear hcz25_0
            try clear hcz25_1
            try clear hcz25_2
            try clear hcz25_3
            try clear hcz25_4
            try clear hcz25_5
            try clear hcz25_6
            try clear hcz25_7
            try clear hcz25_8
            try clear hcz25_9
            try clear hcz26_0
            try clear hcz26_1
            try clear hcz26_2
            try clear hcz26_3
            try clear hcz26_4
            try clear hcz26_5
            try clear hcz26_6
            try clear hcz26_7
            try clear hcz26_8
            try clear hcz26_9
            try clear hcz27_0
            try clear hcz27_1
            try clear hcz27_2
            try clear hcz27_3
            try clear hcz27_4
            try clear hcz27_5
            try clear hcz27_6
            try clear hcz27_7
            try clear hcz27_8
            try clear hcz27_9
            try clear hcz28_0
            try clear hcz28_1
            try clear hcz28_2
            try clear hcz28_3
            try clear hcz28_4
            try clear hcz28_5
            try clear hcz28_6
            try clear hcz28_7
            try clear hcz28_8
            try clear hcz28_9
            try clear hcz29_0
            try clear hcz29_1
            try clear hcz29_2
            try clear hcz29_3
            try clear hcz29_4
            try clear hcz29_5
            try clear hcz29_6
            try clear hcz29_7
            try clear hcz29_8
            try clear hcz29_9
            try clear hcz30_0
            try clear hcz30_1
            try clear hcz30_2
            try clear hcz30_3
            try clear hcz30_4
            try clear hcz30_5
            try clear hcz30_6
            try clear hcz30_7
            try clear hcz30_8
            try clear hcz30_9
            try clear hcz6_0
            try clear hcz6_1
            try clear hcz6_2
            try clear hcz6_3
            try clear hcz6_4
            try clear hcz6_5
            try clear hcz6_6
            try clear hcz6_7
            try clear hcz6_8
            try clear hcz6_9
            try clear hcz8_0
            try clear hcz8_1
            try clear hcz8_2
            try clear hcz8_3
            try clear hcz8_4
            try clear hcz8_5
            try clear hcz8_6
            try clear hcz8_7
            try clear hcz8_8
            try clear hcz8_9
            try clear hfz23_0
            try clear hfz23_1
            try clear hfz23_2
            try clear hfz23_3
            try clear hfz23_4
            try clear hfz23_5
            try clear hfz23_6
            try clear hfz23_7
            try clear hfz23_8
            try clear hfz23_9
            try clear hfz24_0
            try clear hfz24_1
            try clear hfz24_2
            try clear hfz24_3
            try clear hfz24_4
            try clear hfz24_5
            try clear hfz24_6
            try clear hfz24_7
            try clear hfz24_8
            try clear hfz24_9
            try clear hfz25_0
            try clear hfz25_1
            try clear hfz25_2
            try clear hfz25_3
            try clear hfz25_4
            try clear hfz25_5
            try clear hfz25_6
            try clear hfz25_7
            try clear hfz25_8
            try clear hfz25_9
            try clear hfz26_0
            try clear hfz26_1
            try clear hfz26_2
            try clear hfz26_3
            try clear hfz26_4
            try clear hfz26_5
            try clear hfz26_6
            try clear hfz26_7
            try clear hfz26_8
            try clear hfz26_9
            try clear hfz27_0
            try clear hfz27_1
            try clear hfz27_2
            try clear hfz27_3
            try clear hfz27_4
            try clear hfz27_5
            try clear hfz27_6
            try clear hfz27_7
            try clear hfz27_8
            try clear hfz27_9
            try clear hfz28_0
            try clear hfz28_1
            try clear hfz28_2
            try clear hfz28_3
            try clear hfz28_4
            try clear hfz28_5
            try clear hfz28_6
            try clear hfz28_7
            try clear hfz28_8
            try clear hfz28_9
            try clear hfz29_0
            try clear hfz29_1
            try clear hfz29_2
            try clear hfz29_3
            try clear hfz29_4
            try clear hfz29_5
            try clear hfz29_6
            try clear hfz29_7
            try clear hfz29_8
            try clear hfz29_9
            try clear hfz30_0
            try clear hfz30_1
            try clear hfz30_2
            try clear hfz30_3
            try clear hfz30_4
            try clear hfz30_5
            try clear hfz30_6
            try clear hfz30_7
            try clear hfz30_8
            try clear hfz30_9
            try clear hfz6_0
            try clear hfz6_1
            try clear hfz6_2
            try clear hfz6_3
            try clear hfz6_4
            try clear hfz6_5
            try clear hfz6_6
            try clear hfz6_7
            try clear hfz6_8
            try clear hfz6_9
            try clear hfz8_0
            try clear hfz8_1
            try clear hfz8_2
            try clear hfz8_3
            try clear hfz8_4
            try clear hfz8_5
            try clear hfz8_6
            try clear hfz8_7
            try clear hfz8_8
            try clear hfz8_9
            try clear hx179_0
            try clear hx179_1
            try clear hx179_2
            try clear hx179_3
            try clear hx179_4
            try clear hx179_5
            try clear hx179_6
            try clear hx179_7
            try clear hx179_8
            try clear hx179_9
            try clear p179
            try clear q179
            obtain ⟨kq, x70_3, rfl, HA, HJ3, HO_4, BK180, HB⟩ := hcut
            cases kq with
            | zero => exact absurd HA.out (by simp [messuageref27_Write.j1])
            | succ kj3 =>
              have H := HA.out
              clear HA
              simp only [messuageref27_Write.j1] at H
              by_cases c31 : x70_3 = true
              · subst c31
                have H1 : (some (([] : List Int), false)) = some (r1, r2) := by rw [if_pos rfl] at H; exact H
                clear H
                have H := H1
                clear H1
                simp only [Option.some.injEq, Prod.mk.injEq] at H
                obtain ⟨rfl, rfl⟩ := H
                go_wp2
                go_ret2
                exact ⟨_, by first | rfl | (simp [errW_none, errW_some] <;> rfl) | (simp [*, errW_none, errW_some] <;> rfl), by first | exact Kd.R_nil _ _ _ _ _ | exact Kd.N_nil _ _ _ _ _ | exact Kd.V_nil _ _ _ _ _ | exact Kd.Q_nil _ _ _ _ _ | exact Kd.S_nil _ _ _ _ _, by repeat (first | (with_reducible first | exact HB.out | apply below_alloc | apply pw_below_drewN | apply below_drew1 | refine below_set ?_ GE180.out) | exact HB.out)⟩
              · replace c31 := Bool.eq_false_iff.mpr c31
                subst c31
                have H1 : (if ((rd_T45 l0 x5_1).f7) = true then ((some (([(((rd_T45 l0 x5_1).f0)) % 256, (((rd_T45 l0 x5_1).f1)) % 256, (wrap64 (Int.tdiv ((rd_T45 l0 x5_1).f2) 256)) % 256, (Int.tmod ((rd_T45 l0 x5_1).f2) 256) % 256, (wrap64 (Int.tdiv ((rd_T45 l0 x5_1).f3) 256)) % 256, (Int.tmod ((rd_T45 l0 x5_1).f3) 256) % 256, (wrap64 (Int.tdiv ((rd_T45 l0 x5_1).f4) 256)) % 256, (Int.tmod ((rd_T45 l0 x5_1).f4) 256) % 256, (wrap64 (((rd_T45 l0 x5_1).f6.f0) + 16)) % 256, ((rd_T45 l0 x5_1).f6.f1), (((rd_T45 l0 x5_1).f6.f2)) % 256, ((((rd_T45 l0 x5_1).f5).length : Int)) % 256] : List Int) : List Int)).bind fun y188 => (if x4_1.length + y188.length < 140737488355328 then ((some (x4_1 ++ y188 : List Int)).bind fun y191 => (if y191.length + ((rd_T45 l0 x5_1).f5).length < 140737488355328 then (messuageref27_Write.l0 kj3 l0 (y191 ++ ((rd_T45 l0 x5_1).f5)) (wrap64 (x5_1 + 1))) else (none))) else (none))) else ((some (([(((rd_T45 l0 x5_1).f0)) % 256, (((rd_T45 l0 x5_1).f1)) % 256, (wrap64 (Int.tdiv ((rd_T45 l0 x5_1).f2) 256)) % 256, (Int.tmod ((rd_T45 l0 x5_1).f2) 256) % 256, (wrap64 (Int.tdiv ((rd_T45 l0 x5_1).f3) 256)) % 256, (Int.tmod ((rd_T45 l0 x5_1).f3) 256) % 256, (wrap64 (Int.tdiv ((rd_T45 l0 x5_1).f4) 256)) % 256, (Int.tmod ((rd_T45 l0 x5_1).f4) 256) % 256, (((rd_T45 l0 x5_1).f6.f0)) % 256, ((rd_T45 l0 x5_1).f6.f1), (((rd_T45 l0 x5_1).f6.f2)) % 256, ((((rd_T45 l0 x5_1).f5).length : Int)) % 256] : List Int) : List Int)).bind fun y197 => (if x4_1.length + y197.length < 140737488355328 then ((some (x4_1 ++ y197 : List Int)).bind fun y200 => (if y200.length + ((rd_T45 l0 x5_1).f5).length < 140737488355328 then (messuageref27_Write.l0 kj3 l0 (y200 ++ ((rd_T45 l0 x5_1).f5)) (wrap64 (x5_1 + 1))) else (none))) else (none)))) = some (r1, r2) := by rw [if_neg (show ¬ (false = true) by decide)] at H; exact H
                clear H
                have H := H1
                clear H1
                by_cases c32 : ((rd_T45 l0 x5_1).f7) = true
                · rw [if_pos c32] at H
                  have c32b0 : ((rd_T45 l0 x5_1).f7) = true := c32
                  clear c32
                  obtain ⟨y188, hy188⟩ : ∃ y_ : List Int, y_ = (([(((rd_T45 l0 x5_1).f0)) % 256, (((rd_T45 l0 x5_1).f1)) % 256, (wrap64 (Int.tdiv ((rd_T45 l0 x5_1).f2) 256)) % 256, (Int.tmod ((rd_T45 l0 x5_1).f2) 256) % 256, (wrap64 (Int.tdiv ((rd_T45 l0 x5_1).f3) 256)) % 256, (Int.tmod ((rd_T45 l0 x5_1).f3) 256) % 256, (wrap64 (Int.tdiv ((rd_T45 l0 x5_1).f4) 256)) % 256, (Int.tmod ((rd_T45 l0 x5_1).f4) 256) % 256, (wrap64 (((rd_T45 l0 x5_1).f6.f0) + 16)) % 256, ((rd_T45 l0 x5_1).f6.f1), (((rd_T45 l0 x5_1).f6.f2)) % 256, ((((rd_T45 l0 x5_1).f5).length : Int)) % 256] : List Int)) := ⟨_, rfl⟩
                  replace H : (if x4_1.length + y188.length < 140737488355328 then ((some (x4_1 ++ y188 : List Int)).bind fun y191 => (if y191.length + ((rd_T45 l0 x5_1).f5).length < 140737488355328 then (messuageref27_Write.l0 kj3 l0 (y191 ++ ((rd_T45 l0 x5_1).f5)) (wrap64 (x5_1 + 1))) else (none))) else (none)) = some (r1, r2) := by first | (rw [hy188]; with_reducible exact H) | (have H2_ := (Option.bind_some _ _).symm.trans H; rw [hy188]; with_reducible exact H2_) | (have H2_ := (Option.bind_some _ _).symm.trans H; with_reducible exact H2_) | with_reducible exact H | (rw [hy188]; exact H) | exact H
                  have Ny188 := Aside0.mk hy188
                  clear hy188
                  by_cases c33 : x4_1.length + y188.length < 140737488355328
                  · rw [if_pos c33] at H
                    have LMc33 := Aside0.mk c33
                    clear c33
                    obtain ⟨y191, hy191⟩ : ∃ y_ : List Int, y_ = (x4_1 ++ y188) := ⟨_, rfl⟩
                    replace H : (if y191.length + ((rd_T45 l0 x5_1).f5).length < 140737488355328 then (messuageref27_Write.l0 kj3 l0 (y191 ++ ((rd_T45 l0 x5_1).f5)) (wrap64 (x5_1 + 1))) else (none)) = some (r1, r2) := by first | (rw [hy191]; with_reducible exact H) | (have H2_ := (Option.bind_some _ _).symm.trans H; rw [hy191]; with_reducible exact H2_) | (have H2_ := (Option.bind_some _ _).symm.trans H; with_reducible exact H2_) | with_reducible exact H | (rw [hy191]; exact H) | exact H
                    have Ny191 := Aside0.mk hy191
                    clear hy191
                    by_cases c34 : y191.length + ((rd_T45 l0 x5_1).f5).length < 140737488355328
                    · rw [if_pos c34] at H
                      have LMc34 := Aside0.mk c34
                      clear c34
                      obtain ⟨y194, hy194⟩ : ∃ y_ : List Int, y_ = (y191 ++ ((rd_T45 l0 x5_1).f5)) := ⟨_, rfl⟩
                      replace H : (messuageref27_Write.l0 kj3 l0 y194 (wrap64 (x5_1 + 1))) = some (r1, r2) := by first | (rw [hy194]; with_reducible exact H) | (have H2_ := (Option.bind_some _ _).symm.trans H; rw [hy194]; with_reducible exact H2_) | (have H2_ := (Option.bind_some _ _).symm.trans H; with_reducible exact H2_) | with_reducible exact H | (rw [hy194]; exact H) | exact H
                      have Ny194 := Aside0.mk hy194
                      clear hy194
                      have H' := Aside0.mk H
                      clear H
                      have hcz35_0 : wc.cell? ⟨gb180, 0, none⟩ = some (.int .i64 ((rd_T45 l0 x5_1).f0)) := (blk_cell BK180.out 0).trans rfl
                      have hcz35_1 : wc.cell? ⟨gb180, 1, none⟩ = some (.int .i64 ((rd_T45 l0 x5_1).f1)) := (blk_cell BK180.out 1).trans rfl
                      have hcz35_2 : wc.cell? ⟨gb180, 2, none⟩ = some (.int .i64 ((rd_T45 l0 x5_1).f2)) := (blk_cell BK180.out 2).trans rfl
                      have hcz35_3 : wc.cell? ⟨gb180, 3, none⟩ = some (.int .i64 ((rd_T45 l0 x5_1).f3)) := (blk_cell BK180.out 3).trans rfl
                      have hcz35_4 : wc.cell? ⟨gb180, 4, none⟩ = some (.int .i64 ((rd_T45 l0 x5_1).f4)) := (blk_cell BK180.out 4).trans rfl
                      have hcz35_5 : wc.cell? ⟨gb180, 5, none⟩ = some (.slice A179_5 ((rd_T45 l0 x5_1).f5).length c179_5) := (blk_cell BK180.out 5).trans rfl
                      have hcz35_6 : wc.cell? ⟨gb180, 6, none⟩ = some (.int .i64 ((rd_T45 l0 x5_1).f6.f0)) := (blk_cell BK180.out 6).trans rfl
                      have hcz35_7 : wc.cell? ⟨gb180, 7, none⟩ = some (.int .u8 ((rd_T45 l0 x5_1).f6.f1)) := (blk_cell BK180.out 7).trans rfl
                      have hcz35_8 : wc.cell? ⟨gb180, 8, none⟩ = some (.int .i64 ((rd_T45 l0 x5_1).f6.f2)) := (blk_cell BK180.out 8).trans rfl
                      have hcz35_9 : wc.cell? ⟨gb180, 9, none⟩ = some (.bool ((rd_T45 l0 x5_1).f7)) := (blk_cell BK180.out 9).trans rfl
                      have hfz35_0 := blk_frozen BK180.out 0
                      have hfz35_1 := blk_frozen BK180.out 1
                      have hfz35_2 := blk_frozen BK180.out 2
                      have hfz35_3 := blk_frozen BK180.out 3
                      have hfz35_4 := blk_frozen BK180.out 4
                      have hfz35_5 := blk_frozen BK180.out 5
                      have hfz35_6 := blk_frozen BK180.out 6
                      have hfz35_7 := blk_frozen BK180.out 7
                      have hfz35_8 := blk_frozen BK180.out 8
                      have hfz35_9 := blk_frozen BK180.out 9
                      go_wp2_with (first | ((with_reducible refine gate_dst (N := 122) rfl ?_); (try (refine gate_guard (by rfl) ?_; dsimp only)); refine Kd.R_lit (Kd.int .u8) _ 5 ?hg (N := 122) ?hd (xs := ([(((rd_T45 l0 x5_1).f0)) % 256, (((rd_T45 l0 x5_1).f1)) % 256, (wrap64 (Int.tdiv ((rd_T45 l0 x5_1).f2) 256)) % 256, (Int.tmod ((rd_T45 l0 x5_1).f2) 256) % 256, (wrap64 (Int.tdiv ((rd_T45 l0 x5_1).f3) 256)) % 256, (Int.tmod ((rd_T45 l0 x5_1).f3) 256) % 256, (wrap64 (Int.tdiv ((rd_T45 l0 x5_1).f4) 256)) % 256, (Int.tmod ((rd_T45 l0 x5_1).f4) 256) % 256, (wrap64 (((rd_T45 l0 x5_1).f6.f0) + 16)) % 256, ((rd_T45 l0 x5_1).f6.f1), (((rd_T45 l0 x5_1).f6.f2)) % 256, ((((rd_T45 l0 x5_1).f5).length : Int)) % 256] : List Int)) (inner := [.int .u8 ((((rd_T45 l0 x5_1).f0)) % 256), .int .u8 ((((rd_T45 l0 x5_1).f1)) % 256), .int .u8 ((wrap64 (Int.tdiv ((rd_T45 l0 x5_1).f2) 256)) % 256), .int .u8 ((Int.tmod ((rd_T45 l0 x5_1).f2) 256) % 256), .int .u8 ((wrap64 (Int.tdiv ((rd_T45 l0 x5_1).f3) 256)) % 256), .int .u8 ((Int.tmod ((rd_T45 l0 x5_1).f3) 256) % 256), .int .u8 ((wrap64 (Int.tdiv ((rd_T45 l0 x5_1).f4) 256)) % 256), .int .u8 ((Int.tmod ((rd_T45 l0 x5_1).f4) 256) % 256), .int .u8 ((wrap64 (((rd_T45 l0 x5_1).f6.f0) + 16)) % 256), .int .u8 ((rd_T45 l0 x5_1).f6.f1), .int .u8 ((((rd_T45 l0 x5_1).f6.f2)) % 256), .int .u8 (((((rd_T45 l0 x5_1).f5).length : Int)) % 256)]) (ok := fun _ => True) (okp := fun _ => True) ?hr ?hp (fun _ hk => hk) trivial (Below.refl _ _) (Nat.le_refl _) (by simp) ?_; (case hd => rfl); (case hg => rfl); (case hr => first | (go_simp; done) | (go_simp; rfl)); (case hp => exact (Reps.one (show Kd.M (Kd.int .u8) _ _ _ ((((rd_T45 l0 x5_1).f0)) % 256) [.int .u8 ((((rd_T45 l0 x5_1).f0)) % 256)] from rfl) (Reps.one (show Kd.M (Kd.int .u8) _ _ _ ((((rd_T45 l0 x5_1).f1)) % 256) [.int .u8 ((((rd_T45 l0 x5_1).f1)) % 256)] from rfl) (Reps.one (show Kd.M (Kd.int .u8) _ _ _ ((wrap64 (Int.tdiv ((rd_T45 l0 x5_1).f2) 256)) % 256) [.int .u8 ((wrap64 (Int.tdiv ((rd_T45 l0 x5_1).f2) 256)) % 256)] from rfl) (Reps.one (show Kd.M (Kd.int .u8) _ _ _ ((Int.tmod ((rd_T45 l0 x5_1).f2) 256) % 256) [.int .u8 ((Int.tmod ((rd_T45 l0 x5_1).f2) 256) % 256)] from rfl) (Reps.one (show Kd.M (Kd.int .u8) _ _ _ ((wrap64 (Int.tdiv ((rd_T45 l0 x5_1).f3) 256)) % 256) [.int .u8 ((wrap64 (Int.tdiv ((rd_T45 l0 x5_1).f3) 256)) % 256)] from rfl) (Reps.one (show Kd.M (Kd.int .u8) _ _ _ ((Int.tmod ((rd_T45 l0 x5_1).f3) 256) % 256) [.int .u8 ((Int.tmod ((rd_T45 l0 x5_1).f3) 256) % 256)] from rfl) (Reps.one (show Kd.M (Kd.int .u8) _ _ _ ((wrap64 (Int.tdiv ((rd_T45 l0 x5_1).f4) 256)) % 256) [.int .u8 ((wrap64 (Int.tdiv ((rd_T45 l0 x5_1).f4) 256)) % 256)] from rfl) (Reps.one (show Kd.M (Kd.int .u8) _ _ _ ((Int.tmod ((rd_T45 l0 x5_1).f4) 256) % 256) [.int .u8 ((Int.tmod ((rd_T45 l0 x5_1).f4) 256) % 256)] from rfl) (Reps.one (show Kd.M (Kd.int .u8) _ _ _ ((wrap64 (((rd_T45 l0 x5_1).f6.f0) + 16)) % 256) [.int .u8 ((wrap64 (((rd_T45 l0 x5_1).f6.f0) + 16)) % 256)] from rfl) (Reps.one (show Kd.M (Kd.int .u8) _ _ _ ((rd_T45 l0 x5_1).f6.f1) [.int .u8 ((rd_T45 l0 x5_1).f6.f1)] from rfl) (Reps.one (show Kd.M (Kd.int .u8) _ _ _ ((((rd_T45 l0 x5_1).f6.f2)) % 256) [.int .u8 ((((rd_T45 l0 x5_1).f6.f2)) % 256)] from rfl) (Reps.one (show Kd.M (Kd.int .u8) _ _ _ (((((rd_T45 l0 x5_1).f5).length : Int)) % 256) [.int .u8 (((((rd_T45 l0 x5_1).f5).length : Int)) % 256)] from rfl) (Reps.none _ _)))))))))))))); intro v189 w36 ho37 hb hg_ hnew_; clear hg_ hnew_; (first | rw [← Ny188.out] at ho37 | (simp only [Int.reduceToNat] at ho37; rw [← Ny188.out] at ho37)); have n0_ := Aside0.mk (Kd.R_elder' (by (with_reducible repeat (first | apply Kd.R_alloc | apply Kd.R_drewN | apply Kd.R_drew)); exact HO_4.out) (Kd.R_base ho37) hb); have n1_ := Aside0.mk (Kd.R_lower (Kd.R_new' ho37 (Kd.R_lt (by (with_reducible repeat (first | apply Kd.R_alloc | apply Kd.R_drewN | apply Kd.R_drew)); exact HO_4.out))) (below_size (by repeat (first | (with_reducible first | exact HB.out | apply below_alloc | apply pw_below_drewN | apply below_drew1 | refine below_set ?_ GE180.out) | exact HB.out)))); have n2_ := Aside0.mk (blk_below (g := gb180) (o := .cells #[.int .i64 ((rd_T45 l0 x5_1).f0), .int .i64 ((rd_T45 l0 x5_1).f1), .int .i64 ((rd_T45 l0 x5_1).f2), .int .i64 ((rd_T45 l0 x5_1).f3), .int .i64 ((rd_T45 l0 x5_1).f4), .slice A179_5 ((rd_T45 l0 x5_1).f5).length c179_5, .int .i64 ((rd_T45 l0 x5_1).f6.f0), .int .u8 ((rd_T45 l0 x5_1).f6.f1), .int .i64 ((rd_T45 l0 x5_1).f6.f2), .bool ((rd_T45 l0 x5_1).f7)] 45 (0, 0)) (by (with_reducible repeat (first | refine blk_drewN ?_ _ | refine blk_drew ?_ | refine blk_alloc ?_ _)); exact BK180.out) hb); have n3_ := Aside0.mk (below_step (by repeat (first | (with_reducible first | exact HB.out | apply below_alloc | apply pw_below_drewN | apply below_drew1 | refine below_set ?_ GE180.out) | exact HB.out)) hb); clear HO_4; clear BK180; clear HB; have HO_4 := n0_; have HO190 := n1_; have BK180 := n2_; have HB := n3_; clear n0_ n1_ n2_ n3_; clear hb ho37; obtain ⟨Ao39, co39, eo39⟩ := Kd.R_slice HO190.out; subst eo39) | ((with_reducible refine gate_builtin (b := .append) (xs := #[.tmp 78, .tmp 122]) rfl ?_); (try (refine gate_guard (by rfl) ?_; dsimp only)); at_builtin; refine Kd.R_append_rows (Kd.int .u8) (w0 := w) w.heap.size rfl (.tmp 78) (.tmp 122) 26 5 (.int .u8 0) 1 rfl Try.underlying26 info5 rfl (by decide) (by omega) u4 x4_1 y188 _ _ _ (fun k_ => some k_ ≠ (.slice Ao39 y188.length co39 : Value).ownBlock) (fun _ => False) rfl rfl ?aO ?aR (fun _ _ h => h) (fun _ h => h.elim) ?aF ?aB ?aS ?aL ?_; (case aR => repeat (first | exact (Kd.R_reads' HO190.out).2.2 | (with_reducible refine Kd.C_alloc ?_ _) | (with_reducible refine Kd.C_drewN ?_ _) | (with_reducible refine Kd.C_drew ?_))); (case aB => exact (by repeat (first | (with_reducible first | exact HB.out | apply below_alloc | apply pw_below_drewN | apply below_drew1 | refine below_set ?_ GE180.out) | exact HB.out))); (case aF => exact (fun k_ hk => Kd.fresh' (Kd.R_lt (by (with_reducible repeat (first | apply Kd.R_alloc | apply Kd.R_drewN | apply Kd.R_drew)); exact HO190.out)) k_ hk)); (case aO => exact (by (with_reducible repeat (first | apply Kd.R_alloc | apply Kd.R_drewN | apply Kd.R_drew)); exact Kd.R_mono HO_4.out (fun _ hk => hk.2))); (case aS => exact (below_size (by repeat (first | (with_reducible first | exact HB.out | apply below_alloc | apply pw_below_drewN | apply below_drew1 | refine below_set ?_ GE180.out) | exact HB.out)))); (case aL => have := LMc33.out; omega); intro v192 w38 ho hb hg hat; rw [← Ny191.out] at ho; have n0_ := Aside0.mk (blk_grown (g := gb180) (o := .cells #[.int .i64 ((rd_T45 l0 x5_1).f0), .int .i64 ((rd_T45 l0 x5_1).f1), .int .i64 ((rd_T45 l0 x5_1).f2), .int .i64 ((rd_T45 l0 x5_1).f3), .int .i64 ((rd_T45 l0 x5_1).f4), .slice A179_5 ((rd_T45 l0 x5_1).f5).length c179_5, .int .i64 ((rd_T45 l0 x5_1).f6.f0), .int .u8 ((rd_T45 l0 x5_1).f6.f1), .int .i64 ((rd_T45 l0 x5_1).f6.f2), .bool ((rd_T45 l0 x5_1).f7)] 45 (0, 0)) (by (with_reducible repeat (first | refine blk_drewN ?_ _ | refine blk_drew ?_ | refine blk_alloc ?_ _)); exact BK180.out) hg (Kd.R_ne HO_4.out BK180.out (by decide))); have n1_ := Aside0.mk (Kd.R_after (ok := (fun _ => True)) (by (with_reducible repeat (first | apply Kd.R_alloc | apply Kd.R_drewN | apply Kd.R_drew)); exact HO190.out) hg hat); have n2_ := Aside0.mk (hb); have n3_ := Aside0.mk (ho); clear BK180; clear HO190; clear HB; clear HO_4; have BK180 := n0_; have HO190 := n1_; have HB := n2_; have HO193 := n3_; clear n0_ n1_ n2_ n3_; clear ho hb hg hat; have hcz40_0 : w38.cell? ⟨gb180, 0, none⟩ = some (.int .i64 ((rd_T45 l0 x5_1).f0)) := (blk_cell BK180.out 0).trans rfl; have hcz40_1 : w38.cell? ⟨gb180, 1, none⟩ = some (.int .i64 ((rd_T45 l0 x5_1).f1)) := (blk_cell BK180.out 1).trans rfl; have hcz40_2 : w38.cell? ⟨gb180, 2, none⟩ = some (.int .i64 ((rd_T45 l0 x5_1).f2)) := (blk_cell BK180.out 2).trans rfl; have hcz40_3 : w38.cell? ⟨gb180, 3, none⟩ = some (.int .i64 ((rd_T45 l0 x5_1).f3)) := (blk_cell BK180.out 3).trans rfl; have hcz40_4 : w38.cell? ⟨gb180, 4, none⟩ = some (.int .i64 ((rd_T45 l0 x5_1).f4)) := (blk_cell BK180.out 4).trans rfl; have hcz40_5 : w38.cell? ⟨gb180, 5, none⟩ = some (.slice A179_5 ((rd_T45 l0 x5_1).f5).length c179_5) := (blk_cell BK180.out 5).trans rfl; have hcz40_6 : w38.cell? ⟨gb180, 6, none⟩ = some (.int .i64 ((rd_T45 l0 x5_1).f6.f0)) := (blk_cell BK180.out 6).trans rfl; have hcz40_7 : w38.cell? ⟨gb180, 7, none⟩ = some (.int .u8 ((rd_T45 l0 x5_1).f6.f1)) := (blk_cell BK180.out 7).trans rfl; have hcz40_8 : w38.cell? ⟨gb180, 8, none⟩ = some (.int .i64 ((rd_T45 l0 x5_1).f6.f2)) := (blk_cell BK180.out 8).trans rfl; have hcz40_9 : w38.cell? ⟨gb180, 9, none⟩ = some (.bool ((rd_T45 l0 x5_1).f7)) := (blk_cell BK180.out 9).trans rfl; have hfz40_0 := blk_frozen BK180.out 0; have hfz40_1 := blk_frozen BK180.out 1; have hfz40_2 := blk_frozen BK180.out 2; have hfz40_3 := blk_frozen BK180.out 3; have hfz40_4 := blk_frozen BK180.out 4; have hfz40_5 := blk_frozen BK180.out 5; have hfz40_6 := blk_frozen BK180.out 6; have hfz40_7 := blk_frozen BK180.out 7; have hfz40_8 := blk_frozen BK180.out 8; have hfz40_9 := blk_frozen BK180.out 9) | ((with_reducible refine gate_builtin (b := .append) (xs := #[.tmp 124, .tmp 126]) rfl ?_); (try (refine gate_guard (by rfl) ?_; dsimp only)); at_builtin; refine Kd.R_append_rows (Kd.int .u8) (w0 := w) w.heap.size rfl (.tmp 124) (.tmp 126) 26 5 (.int .u8 0) 1 rfl Try.underlying26 info5 rfl (by decide) (by omega) v192 y191 ((rd_T45 l0 x5_1).f5) _ _ _ (fun k_ => some k_ ≠ (.slice Ao39 y188.length co39 : Value).ownBlock) (fun _ => False) rfl rfl ?aO ?aR (fun _ _ h => h) (fun _ h => h.elim) ?aF ?aB ?aS ?aL ?_; (case aR => repeat (first | exact (Kd.C_below HR179_5.out HB.out) | (with_reducible refine Kd.C_alloc ?_ _) | (with_reducible refine Kd.C_drewN ?_ _) | (with_reducible refine Kd.C_drew ?_))); (case aB => exact (by repeat (first | (with_reducible first | exact HB.out | apply below_alloc | apply pw_below_drewN | apply below_drew1 | refine below_set ?_ GE180.out) | exact HB.out))); (case aF => exact (fun k_ hk => Kd.fresh' (Kd.R_lt (by (with_reducible repeat (first | apply Kd.R_alloc | apply Kd.R_drewN | apply Kd.R_drew)); exact HO190.out)) k_ hk)); (case aO => exact (by (with_reducible repeat (first | apply Kd.R_alloc | apply Kd.R_drewN | apply Kd.R_drew)); exact HO193.out)); (case aS => exact (below_size (by repeat (first | (with_reducible first | exact HB.out | apply below_alloc | apply pw_below_drewN | apply below_drew1 | refine below_set ?_ GE180.out) | exact HB.out)))); (case aL => have := LMc34.out; omega); intro v195 w41 ho hb hg hat; rw [← Ny194.out] at ho; have n0_ := Aside0.mk (blk_grown (g := gb180) (o := .cells #[.int .i64 ((rd_T45 l0 x5_1).f0), .int .i64 ((rd_T45 l0 x5_1).f1), .int .i64 ((rd_T45 l0 x5_1).f2), .int .i64 ((rd_T45 l0 x5_1).f3), .int .i64 ((rd_T45 l0 x5_1).f4), .slice A179_5 ((rd_T45 l0 x5_1).f5).length c179_5, .int .i64 ((rd_T45 l0 x5_1).f6.f0), .int .u8 ((rd_T45 l0 x5_1).f6.f1), .int .i64 ((rd_T45 l0 x5_1).f6.f2), .bool ((rd_T45 l0 x5_1).f7)] 45 (0, 0)) (by (with_reducible repeat (first | refine blk_drewN ?_ _ | refine blk_drew ?_ | refine blk_alloc ?_ _)); exact BK180.out) hg (Kd.R_ne HO193.out BK180.out (by decide))); have n1_ := Aside0.mk (Kd.R_after (ok := (fun _ => True)) (by (with_reducible repeat (first | apply Kd.R_alloc | apply Kd.R_drewN | apply Kd.R_drew)); exact HO190.out) hg hat); have n2_ := Aside0.mk (hb); have n3_ := Aside0.mk (ho); clear BK180; clear HO190; clear HB; clear HO193; have BK180 := n0_; have HO190 := n1_; have HB := n2_; have HO196 := n3_; clear n0_ n1_ n2_ n3_; clear ho hb hg hat))
                      go_roundg kj3
                      case measure => have := HK1.out; have := HJ3.out; omega
                      case rel => exact ⟨(y194), (wrap64 (x5_1 + 1)), (by first | rfl | (simp; done) | (simp [*]; done)), H', ⟨by have := HK1.out; have := HJ3.out; omega⟩, ⟨by (with_reducible repeat (first | apply Kd.R_alloc | apply Kd.R_drewN | apply Kd.R_drew)); exact Kd.R_mono HO196.out (fun _ hk => trivial)⟩, ⟨by repeat (first | (with_reducible first | exact HB.out | apply below_alloc | apply pw_below_drewN | apply below_drew1 | refine below_set ?_ GE180.out) | exact HB.out)⟩⟩
                    · rw [if_neg c34] at H
                      exact absurd H (by simp)
                  · rw [if_neg c33] at H
                    exact absurd H (by simp)
                · rw [if_neg c32] at H
                  have c32b0 : ((rd_T45 l0 x5_1).f7) = false := by simpa using c32
                  clear c32
                  obtain ⟨y197, hy197⟩ : ∃ y_ : List Int, y_ = (([(((rd_T45 l0 x5_1).f0)) % 256, (((rd_T45 l0 x5_1).f1)) % 256, (wrap64 (Int.tdiv ((rd_T45 l0 x5_1).f2) 256)) % 256, (Int.tmod ((rd_T45 l0 x5_1).f2) 256) % 256, (wrap64 (Int.tdiv ((rd_T45 l0 x5_1).f3) 256)) % 256, (Int.tmod ((rd_T45 l0 x5_1).f3) 256) % 256, (wrap64 (Int.tdiv ((rd_T45 l0 x5_1).f4) 256)) % 256, (Int.tmod ((rd_T45 l0 x5_1).f4) 256) % 256, (((rd_T45 l0 x5_1).f6.f0)) % 256, ((rd_T45 l0 x5_1).f6.f1), (((rd_T45 l0 x5_1).f6.f2)) % 256, ((((rd_T45 l0 x5_1).f5).length : Int)) % 256] : List Int)) := ⟨_, rfl⟩
                  replace H : (if x4_1.length + y197.length < 140737488355328 then ((some (x4_1 ++ y197 : List Int)).bind fun y200 => (if y200.length + ((rd_T45 l0 x5_1).f5).length < 140737488355328 then (messuageref27_Write.l0 kj3 l0 (y200 ++ ((rd_T45 l0 x5_1).f5)) (wrap64 (x5_1 + 1))) else (none))) else (none)) = some (r1, r2) := by first | (rw [hy197]; with_reducible exact H) | (have H2_ := (Option.bind_some _ _).symm.trans H; rw [hy197]; with_reducible exact H2_) | (have H2_ := (Option.bind_some _ _).symm.trans H; with_reducible exact H2_) | with_reducible exact H | (rw [hy197]; exact H) | exact H
                  have Ny197 := Aside0.mk hy197
                  clear hy197
                  by_cases c42 : x4_1.length + y197.length < 140737488355328
                  · rw [if_pos c42] at H
                    have LMc42 := Aside0.mk c42
                    clear c42
                    obtain ⟨y200, hy200⟩ : ∃ y_ : List Int, y_ = (x4_1 ++ y197) := ⟨_, rfl⟩
                    replace H : (if y200.length + ((rd_T45 l0 x5_1).f5).length < 140737488355328 then (messuageref27_Write.l0 kj3 l0 (y200 ++ ((rd_T45 l0 x5_1).f5)) (wrap64 (x5_1 + 1))) else (none)) = some (r1, r2) := by first | (rw [hy200]; with_reducible exact H) | (have H2_ := (Option.bind_some _ _).symm.trans H; rw [hy200]; with_reducible exact H2_) | (have H2_ := (Option.bind_some _ _).symm.trans H; with_reducible exact H2_) | with_reducible exact H | (rw [hy200]; exact H) | exact H
                    have Ny200 := Aside0.mk hy200
                    clear hy200
                    by_cases c43 : y200.length + ((rd_T45 l0 x5_1).f5).length < 140737488355328
                    · rw [if_pos c43] at H
                      have LMc43 := Aside0.mk c43
                      clear c43
                      obtain ⟨y203, hy203⟩ : ∃ y_ : List Int, y_ = (y200 ++ ((rd_T45 l0 x5_1).f5)) := ⟨_, rfl⟩
                      replace H : (messuageref27_Write.l0 kj3 l0 y203 (wrap64 (x5_1 + 1))) = some (r1, r2) := by first | (rw [hy203]; with_reducible exact H) | (have H2_ := (Option.bind_some _ _).symm.trans H; rw [hy203]; with_reducible exact H2_) | (have H2_ := (Option.bind_some _ _).symm.trans H; with_reducible exact H2_) | with_reducible exact H | (rw [hy203]; exact H) | exact H
                      have Ny203 := Aside0.mk hy203
                      clear hy203
                      have H' := Aside0.mk H
                      clear H
                      have hcz44_0 : wc.cell? ⟨gb180, 0, none⟩ = some (.int .i64 ((rd_T45 l0 x5_1).f0)) := (blk_cell BK180.out 0).trans rfl
                      have hcz44_1 : wc.cell? ⟨gb180, 1, none⟩ = some (.int .i64 ((rd_T45 l0 x5_1).f1)) := (blk_cell BK180.out 1).trans rfl
                      have hcz44_2 : wc.cell? ⟨gb180, 2, none⟩ = some (.int .i64 ((rd_T45 l0 x5_1).f2)) := (blk_cell BK180.out 2).trans rfl
                      have hcz44_3 : wc.cell? ⟨gb180, 3, none⟩ = some (.int .i64 ((rd_T45 l0 x5_1).f3)) := (blk_cell BK180.out 3).trans rfl
                      have hcz44_4 : wc.cell? ⟨gb180, 4, none⟩ = some (.int .i64 ((rd_T45 l0 x5_1).f4)) := (blk_cell BK180.out 4).trans rfl
                      have hcz44_5 : wc.cell? ⟨gb180, 5, none⟩ = some (.slice A179_5 ((rd_T45 l0 x5_1).f5).length c179_5) := (blk_cell BK180.out 5).trans rfl
                      have hcz44_6 : wc.cell? ⟨gb180, 6, none⟩ = some (.int .i64 ((rd_T45 l0 x5_1).f6.f0)) := (blk_cell BK180.out 6).trans rfl
                      have hcz44_7 : wc.cell? ⟨gb180, 7, none⟩ = some (.int .u8 ((rd_T45 l0 x5_1).f6.f1)) := (blk_cell BK180.out 7).trans rfl
                      have hcz44_8 : wc.cell? ⟨gb180, 8, none⟩ = some (.int .i64 ((rd_T45 l0 x5_1).f6.f2)) := (blk_cell BK180.out 8).trans rfl
                      have hcz44_9 : wc.cell? ⟨gb180, 9, none⟩ = some (.bool ((rd_T45 l0 x5_1).f7)) := (blk_cell BK180.out 9).trans rfl
                      have hfz44_0 := blk_frozen BK180.out 0
                      have hfz44_1 := blk_frozen BK180.out 1
                      have hfz44_2 := blk_frozen BK180.out 2
                      have hfz44_3 := blk_frozen BK180.out 3
                      have hfz44_4 := blk_frozen BK180.out 4
                      have hfz44_5 := blk_frozen BK180.out 5
                      have hfz44_6 := blk_frozen BK180.out 6
                      have hfz44_7 := blk_frozen BK180.out 7
                      have hfz44_8 := blk_frozen BK180.out 8
                      have hfz44_9 := blk_frozen BK180.out 9
                      go_wp2_with (first | ((with_reducible refine gate_dst (N := 122) rfl ?_); (try (refine gate_guard (by rfl) ?_; dsimp only)); refine Kd.R_lit (Kd.int .u8) _ 5 ?hg (N := 122) ?hd (xs := ([(((rd_T45 l0 x5_1).f0)) % 256, (((rd_T45 l0 x5_1).f1)) % 256, (wrap64 (Int.tdiv ((rd_T45 l0 x5_1).f2) 256)) % 256, (Int.tmod ((rd_T45 l0 x5_1).f2) 256) % 256, (wrap64 (Int.tdiv ((rd_T45 l0 x5_1).f3) 256)) % 256, (Int.tmod ((rd_T45 l0 x5_1).f3) 256) % 256, (wrap64 (Int.tdiv ((rd_T45 l0 x5_1).f4) 256)) % 256, (Int.tmod ((rd_T45 l0 x5_1).f4) 256) % 256, (((rd_T45 l0 x5_1).f6.f0)) % 256, ((rd_T45 l0 x5_1).f6.f1), (((rd_T45 l0 x5_1).f6.f2)) % 256, ((((rd_T45 l0 x5_1).f5).length : Int)) % 256] : List Int)) (inner := [.int .u8 ((((rd_T45 l0 x5_1).f0)) % 256), .int .u8 ((((rd_T45 l0 x5_1).f1)) % 256), .int .u8 ((wrap64 (Int.tdiv ((rd_T45 l0 x5_1).f2) 256)) % 256), .int .u8 ((Int.tmod ((rd_T45 l0 x5_1).f2) 256) % 256), .int .u8 ((wrap64 (Int.tdiv ((rd_T45 l0 x5_1).f3) 256)) % 256), .int .u8 ((Int.tmod ((rd_T45 l0 x5_1).f3) 256) % 256), .int .u8 ((wrap64 (Int.tdiv ((rd_T45 l0 x5_1).f4) 256)) % 256), .int .u8 ((Int.tmod ((rd_T45 l0 x5_1).f4) 256) % 256), .int .u8 ((((rd_T45 l0 x5_1).f6.f0)) % 256), .int .u8 ((rd_T45 l0 x5_1).f6.f1), .int .u8 ((((rd_T45 l0 x5_1).f6.f2)) % 256), .int .u8 (((((rd_T45 l0 x5_1).f5).length : Int)) % 256)]) (ok := fun _ => True) (okp := fun _ => True) ?hr ?hp (fun _ hk => hk) trivial (Below.refl _ _) (Nat.le_refl _) (by simp) ?_; (case hd => rfl); (case hg => rfl); (case hr => first | (go_simp; done) | (go_simp; rfl)); (case hp => exact (Reps.one (show Kd.M (Kd.int .u8) _ _ _ ((((rd_T45 l0 x5_1).f0)) % 256) [.int .u8 ((((rd_T45 l0 x5_1).f0)) % 256)] from rfl) (Reps.one (show Kd.M (Kd.int .u8) _ _ _ ((((rd_T45 l0 x5_1).f1)) % 256) [.int .u8 ((((rd_T45 l0 x5_1).f1)) % 256)] from rfl) (Reps.one (show Kd.M (Kd.int .u8) _ _ _ ((wrap64 (Int.tdiv ((rd_T45 l0 x5_1).f2) 256)) % 256) [.int .u8 ((wrap64 (Int.tdiv ((rd_T45 l0 x5_1).f2) 256)) % 256)] from rfl) (Reps.one (show Kd.M (Kd.int .u8) _ _ _ ((Int.tmod ((rd_T45 l0 x5_1).f2) 256) % 256) [.int .u8 ((Int.tmod ((rd_T45 l0 x5_1).f2) 256) % 256)] from rfl) (Reps.one (show Kd.M (Kd.int .u8) _ _ _ ((wrap64 (Int.tdiv ((rd_T45 l0 x5_1).f3) 256)) % 256) [.int .u8 ((wrap64 (Int.tdiv ((rd_T45 l0 x5_1).f3) 256)) % 256)] from rfl) (Reps.one (show Kd.M (Kd.int .u8) _ _ _ ((Int.tmod ((rd_T45 l0 x5_1).f3) 256) % 256) [.int .u8 ((Int.tmod ((rd_T45 l0 x5_1).f3) 256) % 256)] from rfl) (Reps.one (show Kd.M (Kd.int .u8) _ _ _ ((wrap64 (Int.tdiv ((rd_T45 l0 x5_1).f4) 256)) % 256) [.int .u8 ((wrap64 (Int.tdiv ((rd_T45 l0 x5_1).f4) 256)) % 256)] from rfl) (Reps.one (show Kd.M (Kd.int .u8) _ _ _ ((Int.tmod ((rd_T45 l0 x5_1).f4) 256) % 256) [.int .u8 ((Int.tmod ((rd_T45 l0 x5_1).f4) 256) % 256)] from rfl) (Reps.one (show Kd.M (Kd.int .u8) _ _ _ ((((rd_T45 l0 x5_1).f6.f0)) % 256) [.int .u8 ((((rd_T45 l0 x5_1).f6.f0)) % 256)] from rfl) (Reps.one (show Kd.M (Kd.int .u8) _ _ _ ((rd_T45 l0 x5_1).f6.f1) [.int .u8 ((rd_T45 l0 x5_1).f6.f1)] from rfl) (Reps.one (show Kd.M (Kd.int .u8) _ _ _ ((((rd_T45 l0 x5_1).f6.f2)) % 256) [.int .u8 ((((rd_T45 l0 x5_1).f6.f2)) % 256)] from rfl) (Reps.one (show Kd.M (Kd.int .u8) _ _ _ (((((rd_T45 l0 x5_1).f5).length : Int)) % 256) [.int .u8 (((((rd_T45 l0 x5_1).f5).length : Int)) % 256)] from rfl) (Reps.none _ _)))))))))))))); intro v198 w45 ho46 hb hg_ hnew_; clear hg_ hnew_; (first | rw [← Ny197.out] at ho46 | (simp only [Int.reduceToNat] at ho46; rw [← Ny197.out] at ho46)); have n0_ := Aside0.mk (Kd.R_elder' (by (with_reducible repeat (first | apply Kd.R_alloc | apply Kd.R_drewN | apply Kd.R_drew)); exact HO_4.out) (Kd.R_base ho46) hb); have n1_ := Aside0.mk (Kd.R_lower (Kd.R_new' ho46 (Kd.R_lt (by (with_reducible repeat (first | apply Kd.R_alloc | apply Kd.R_drewN | apply Kd.R_drew)); exact HO_4.out))) (below_size (by repeat (first | (with_reducible first | exact HB.out | apply below_alloc | apply pw_below_drewN | apply below_drew1 | refine below_set ?_ GE180.out) | exact HB.out)))); have n2_ := Aside0.mk (blk_below (g := gb180) (o := .cells #[.int .i64 ((rd_T45 l0 x5_1).f0), .int .i64 ((rd_T45 l0 x5_1).f1), .int .i64 ((rd_T45 l0 x5_1).f2), .int .i64 ((rd_T45 l0 x5_1).f3), .int .i64 ((rd_T45 l0 x5_1).f4), .slice A179_5 ((rd_T45 l0 x5_1).f5).length c179_5, .int .i64 ((rd_T45 l0 x5_1).f6.f0), .int .u8 ((rd_T45 l0 x5_1).f6.f1), .int .i64 ((rd_T45 l0 x5_1).f6.f2), .bool ((rd_T45 l0 x5_1).f7)] 45 (0, 0)) (by (with_reducible repeat (first | refine blk_drewN ?_ _ | refine blk_drew ?_ | refine blk_alloc ?_ _)); exact BK180.out) hb); have n3_ := Aside0.mk (below_step (by repeat (first | (with_reducible first | exact HB.out | apply below_alloc | apply pw_below_drewN | apply below_drew1 | refine below_set ?_ GE180.out) | exact HB.out)) hb); clear HO_4; clear BK180; clear HB; have HO_4 := n0_; have HO199 := n1_; have BK180 := n2_; have HB := n3_; clear n0_ n1_ n2_ n3_; clear hb ho46; obtain ⟨Ao48, co48, eo48⟩ := Kd.R_slice HO199.out; subst eo48) | ((with_reducible refine gate_builtin (b := .append) (xs := #[.tmp 78, .tmp 122]) rfl ?_); (try (refine gate_guard (by rfl) ?_; dsimp only)); at_builtin; refine Kd.R_append_rows (Kd.int .u8) (w0 := w) w.heap.size rfl (.tmp 78) (.tmp 122) 26 5 (.int .u8 0) 1 rfl Try.underlying26 info5 rfl (by decide) (by omega) u4 x4_1 y197 _ _ _ (fun k_ => some k_ ≠ (.slice Ao48 y197.length co48 : Value).ownBlock) (fun _ => False) rfl rfl ?aO ?aR (fun _ _ h => h) (fun _ h => h.elim) ?aF ?aB ?aS ?aL ?_; (case aR => repeat (first | exact (Kd.R_reads' HO199.out).2.2 | (with_reducible refine Kd.C_alloc ?_ _) | (with_reducible refine Kd.C_drewN ?_ _) | (with_reducible refine Kd.C_drew ?_))); (case aB => exact (by repeat (first | (with_reducible first | exact HB.out | apply below_alloc | apply pw_below_drewN | apply below_drew1 | refine below_set ?_ GE180.out) | exact HB.out))); (case aF => exact (fun k_ hk => Kd.fresh' (Kd.R_lt (by (with_reducible repeat (first | apply Kd.R_alloc | apply Kd.R_drewN | apply Kd.R_drew)); exact HO199.out)) k_ hk)); (case aO => exact (by (with_reducible repeat (first | apply Kd.R_alloc | apply Kd.R_drewN | apply Kd.R_drew)); exact Kd.R_mono HO_4.out (fun _ hk => hk.2))); (case aS => exact (below_size (by repeat (first | (with_reducible first | exact HB.out | apply below_alloc | apply pw_below_drewN | apply below_drew1 | refine below_set ?_ GE180.out) | exact HB.out)))); (case aL => have := LMc42.out; omega); intro v201 w47 ho hb hg hat; rw [← Ny200.out] at ho; have n0_ := Aside0.mk (blk_grown (g := gb180) (o := .cells #[.int .i64 ((rd_T45 l0 x5_1).f0), .int .i64 ((rd_T45 l0 x5_1).f1), .int .i64 ((rd_T45 l0 x5_1).f2), .int .i64 ((rd_T45 l0 x5_1).f3), .int .i64 ((rd_T45 l0 x5_1).f4), .slice A179_5 ((rd_T45 l0 x5_1).f5).length c179_5, .int .i64 ((rd_T45 l0 x5_1).f6.f0), .int .u8 ((rd_T45 l0 x5_1).f6.f1), .int .i64 ((rd_T45 l0 x5_1).f6.f2), .bool ((rd_T45 l0 x5_1).f7)] 45 (0, 0)) (by (with_reducible repeat (first | refine blk_drewN ?_ _ | refine blk_drew ?_ | refine blk_alloc ?_ _)); exact BK180.out) hg (Kd.R_ne HO_4.out BK180.out (by decide))); have n1_ := Aside0.mk (Kd.R_after (ok := (fun _ => True)) (by (with_reducible repeat (first | apply Kd.R_alloc | apply Kd.R_drewN | apply Kd.R_drew)); exact HO199.out) hg hat); have n2_ := Aside0.mk (hb); have n3_ := Aside0.mk (ho); clear BK180; clear HO199; clear HB; clear HO_4; have BK180 := n0_; have HO199 := n1_; have HB := n2_; have HO202 := n3_; clear n0_ n1_ n2_ n3_; clear ho hb hg hat; have hcz49_0 : w47.cell? ⟨gb180, 0, none⟩ = some (.int .i64 ((rd_T45 l0 x5_1).f0)) := (blk_cell BK180.out 0).trans rfl; have hcz49_1 : w47.cell? ⟨gb180, 1, none⟩ = some (.int .i64 ((rd_T45 l0 x5_1).f1)) := (blk_cell BK180.out 1).trans rfl; have hcz49_2 : w47.cell? ⟨gb180, 2, none⟩ = some (.int .i64 ((rd_T45 l0 x5_1).f2)) := (blk_cell BK180.out 2).trans rfl; have hcz49_3 : w47.cell? ⟨gb180, 3, none⟩ = some (.int .i64 ((rd_T45 l0 x5_1).f3)) := (blk_cell BK180.out 3).trans rfl; have hcz49_4 : w47.cell? ⟨gb180, 4, none⟩ = some (.int .i64 ((rd_T45 l0 x5_1).f4)) := (blk_cell BK180.out 4).trans rfl; have hcz49_5 : w47.cell? ⟨gb180, 5, none⟩ = some (.slice A179_5 ((rd_T45 l0 x5_1).f5).length c179_5) := (blk_cell BK180.out 5).trans rfl; have hcz49_6 : w47.cell? ⟨gb180, 6, none⟩ = some (.int .i64 ((rd_T45 l0 x5_1).f6.f0)) := (blk_cell BK180.out 6).trans rfl; have hcz49_7 : w47.cell? ⟨gb180, 7, none⟩ = some (.int .u8 ((rd_T45 l0 x5_1).f6.f1)) := (blk_cell BK180.out 7).trans rfl; have hcz49_8 : w47.cell? ⟨gb180, 8, none⟩ = some (.int .i64 ((rd_T45 l0 x5_1).f6.f2)) := (blk_cell BK180.out 8).trans rfl; have hcz49_9 : w47.cell? ⟨gb180, 9, none⟩ = some (.bool ((rd_T45 l0 x5_1).f7)) := (blk_cell BK180.out 9).trans rfl; have hfz49_0 := blk_frozen BK180.out 0; have hfz49_1 := blk_frozen BK180.out 1; have hfz49_2 := blk_frozen BK180.out 2; have hfz49_3 := blk_frozen BK180.out 3; have hfz49_4 := blk_frozen BK180.out 4; have hfz49_5 := blk_frozen BK180.out 5; have hfz49_6 := blk_frozen BK180.out 6; have hfz49_7 := blk_frozen BK180.out 7; have hfz49_8 := blk_frozen BK180.out 8; have hfz49_9 := blk_frozen BK180.out 9) | ((with_reducible refine gate_builtin (b := .append) (xs := #[.tmp 124, .tmp 126]) rfl ?_); (try (refine gate_guard (by rfl) ?_; dsimp only)); at_builtin; refine Kd.R_append_rows (Kd.int .u8) (w0 := w) w.heap.size rfl (.tmp 124) (.tmp 126) 26 5 (.int .u8 0) 1 rfl Try.underlying26 info5 rfl (by decide) (by omega) v201 y200 ((rd_T45 l0 x5_1).f5) _ _ _ (fun k_ => some k_ ≠ (.slice Ao48 y197.length co48 : Value).ownBlock) (fun _ => False) rfl rfl ?aO ?aR (fun _ _ h => h) (fun _ h => h.elim) ?aF ?aB ?aS ?aL ?_; (case aR => repeat (first | exact (Kd.C_below HR179_5.out HB.out) | (with_reducible refine Kd.C_alloc ?_ _) | (with_reducible refine Kd.C_drewN ?_ _) | (with_reducible refine Kd.C_drew ?_))); (case aB => exact (by repeat (first | (with_reducible first | exact HB.out | apply below_alloc | apply pw_below_drewN | apply below_drew1 | refine below_set ?_ GE180.out) | exact HB.out))); (case aF => exact (fun k_ hk => Kd.fresh' (Kd.R_lt (by (with_reducible repeat (first | apply Kd.R_alloc | apply Kd.R_drewN | apply Kd.R_drew)); exact HO199.out)) k_ hk)); (case aO => exact (by (with_reducible repeat (first | apply Kd.R_alloc | apply Kd.R_drewN | apply Kd.R_drew)); exact HO202.out)); (case aS => exact (below_size (by repeat (first | (with_reducible first | exact HB.out | apply below_alloc | apply pw_below_drewN | apply below_drew1 | refine below_set ?_ GE180.out) | exact HB.out)))); (case aL => have := LMc43.out; omega); intro v204 w50 ho hb hg hat; rw [← Ny203.out] at ho; have n0_ := Aside0.mk (blk_grown (g := gb180) (o := .cells #[.int .i64 ((rd_T45 l0 x5_1).f0), .int .i64 ((rd_T45 l0 x5_1).f1), .int .i64 ((rd_T45 l0 x5_1).f2), .int .i64 ((rd_T45 l0 x5_1).f3), .int .i64 ((rd_T45 l0 x5_1).f4), .slice A179_5 ((rd_T45 l0 x5_1).f5).length c179_5, .int .i64 ((rd_T45 l0 x5_1).f6.f0), .int .u8 ((rd_T45 l0 x5_1).f6.f1), .int .i64 ((rd_T45 l0 x5_1).f6.f2), .bool ((rd_T45 l0 x5_1).f7)] 45 (0, 0)) (by (with_reducible repeat (first | refine blk_drewN ?_ _ | refine blk_drew ?_ | refine blk_alloc ?_ _)); exact BK180.out) hg (Kd.R_ne HO202.out BK180.out (by decide))); have n1_ := Aside0.mk (Kd.R_after (ok := (fun _ => True)) (by (with_reducible repeat (first | apply Kd.R_alloc | apply Kd.R_drewN | apply Kd.R_drew)); exact HO199.out) hg hat); have n2_ := Aside0.mk (hb); have n3_ := Aside0.mk (ho); clear BK180; clear HO199; clear HB; clear HO202; have BK180 := n0_; have HO199 := n1_; have HB := n2_; have HO205 := n3_; clear n0_ n1_ n2_ n3_; clear ho hb hg hat))
                      go_roundg kj3
                      case measure => have := HK1.out; have := HJ3.out; omega
                      case rel => exact ⟨(y203), (wrap64 (x5_1 + 1)), (by first | rfl | (simp; done) | (simp [*]; done)), H', ⟨by have := HK1.out; have := HJ3.out; omega⟩, ⟨by (with_reducible repeat (first | apply Kd.R_alloc | apply Kd.R_drewN | apply Kd.R_drew)); exact Kd.R_mono HO205.out (fun _ hk => trivial)⟩, ⟨by repeat (first | (with_reducible first | exact HB.out | apply below_alloc | apply pw_below_drewN | apply below_drew1 | refine below_set ?_ GE180.out) | exact HB.out)⟩⟩
                    · rw [if_neg c43] at H
                      exact absurd H (by simp)
                  · rw [if_neg c42] at H
                    exact absurd H (by simp)
        · rw [if_neg c3] at H
          exact absurd H (by simp)
      · rw [if_neg c2] at H
        have c2b0 : decide (x5_1 < (l0.length : Int)) = false := decide_eq_false c2
        clear c2
        simp only [Option.some.injEq, Prod.mk.injEq] at H
        obtain ⟨rfl, rfl⟩ := H
        go_wp2
        go_ret2
        exact ⟨_, by first | rfl | (simp [errW_none, errW_some] <;> rfl) | (simp [*, errW_none, errW_some] <;> rfl), by (with_reducible repeat (first | apply Kd.R_alloc | apply Kd.R_drewN | apply Kd.R_drew)); exact HO_4.out, by repeat (first | (with_reducible first | exact HB.out | apply below_alloc | apply pw_below_drewN | apply below_drew1) | exact HB.out)⟩

/-! ### trace_word: function 21 -/
def trace_word.f (l0 : List Int) : Option (Int) := if 0 < (l0.length : Int) then (if 1 < (l0.length : Int) then (some (Go.bits .or .i64 (wrap64 ((wrap64 (rd l0 0)) * 256)) (wrap64 (rd l0 1)))) else (none)) else (none)
set_option maxHeartbeats 8000000 in
set_option maxRecDepth 100000 in
theorem trace_word.calls (A0 : Option Addr) (c0 : Nat) (l0 : List Int) (r : Int) (w : World) (hr0 : Kd.C (Kd.int .u8) w A0 l0.length l0) (hc0 : l0.length ≤ c0) (h : trace_word.f l0 = some r) :
    Calls Try.prog 21 #[.slice A0 l0.length c0] w fun e w' => e = .returned (.int .i64 r) ∧ Drawn0 w w' := by
  have HR0 := Aside0.mk hr0
  have HC0 := Aside0.mk hc0
  clear hr0 hc0
  have H : (if 0 < (l0.length : Int) then (if 1 < (l0.length : Int) then (some (Go.bits .or .i64 (wrap64 ((wrap64 (rd l0 0)) * 256)) (wrap64 (rd l0 1)))) else (none)) else (none)) = some r := h
  clear h
  by_cases c2 : 0 < (l0.length : Int)
  · rw [if_pos c2] at H
    have c2b0 : decide (0 < (l0.length : Int)) = true := decide_eq_true c2
    have c2b1 : decide (0 < l0.length) = true := decide_eq_true (by omega)
    clear c2
    by_cases c3 : 1 < (l0.length : Int)
    · rw [if_pos c3] at H
      have c3b0 : decide (1 < (l0.length : Int)) = true := decide_eq_true c3
      have c3b1 : decide (1 < l0.length) = true := decide_eq_true (by omega)
      clear c3
      obtain rfl := Option.some.inj H
      have p206 : 0 ≤ (0 : Int) := (by omega)
      have q206 : 0 < (l0.length : Int) := of_decide_eq_true (by first | (with_reducible assumption) | assumption)
      obtain ⟨ad206, e206, hx206_0⟩ := Kd.at_int HR0.out 0 p206 q206
      cases e206
      have qi206 : (0 < l0.length) = True := eq_true (by omega)
      (try rw [show ((0 : Int)).toNat = 0 from rfl] at hx206_0)
      (try rw [Addr.add_zero'] at hx206_0)
      replace p206 := eq_true p206
      replace q206 := eq_true q206
      have p207 : 0 ≤ (1 : Int) := (by omega)
      have q207 : 1 < (l0.length : Int) := of_decide_eq_true (by first | (with_reducible assumption) | assumption)
      obtain ⟨ad207, e207, hx207_0⟩ := Kd.at_int HR0.out 1 p207 q207
      obtain rfl : ad206 = ad207 := (by injection e207)
      (try simp only [show (1 : Int).toNat = 1 from rfl, Nat.reduceMul, Nat.reduceEqDiff, Go.Addr.add, ↓reduceIte] at hx207_0)
      have qi207 : (1 < l0.length) = True := eq_true (by omega)
      (try rw [show ((1 : Int)).toNat = 1 from rfl] at hx207_0)
      replace p207 := eq_true p207
      replace q207 := eq_true q207
      go_enter Try.func21, Try.ntmps21
      go_wp2
      repeat (go_quiet (fail); try go_wp2)
      go_ret
      exact ⟨by first | rfl | (simp; done) | (simp [*]; done), by repeat (first | exact Drawn0.refl _ | apply Drawn0.step)⟩
    · rw [if_neg c3] at H
      exact absurd H (by simp)
  · rw [if_neg c2] at H
    exact absurd H (by simp)

end Go.Proofs.Ytahagjdnjggdaaa.T
