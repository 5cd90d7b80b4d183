/- The walk of trace.take, where the bytes hold a whole step. Its conditions: the step's bytes lie there. -/
import Derived.Test.YtahagjdnjggdaaaB
import Derived.Outline
import Derived.Deep.RegionHeld3
import Derived.Deep.RegionWith
import Derived.Deep.DeepCutAuto
namespace Go.Proofs.Ytahagjdnjggdaaa.T
open Go.RowKit Go.Proofs.YtahagjdnjggdaaaW.PrintWords Go.Proofs.YtahagjdnjggdaaaW.PrintLast Go.Proofs.YtahagjdnjggdaaaW.PrintMore
set_option linter.unusedVariables false
set_option linter.unusedSimpArgs false

theorem cell_far (W : World) (b i : Nat) (u : Value) (g j : Nat) (h : g ≠ b) : (W.setCell ⟨b, i, none⟩ u).cell? ⟨g, j, none⟩ = W.cell? ⟨g, j, none⟩ := World.cell?_of_block (Below.heap_setCell W ⟨b, i, none⟩ u g h)
def TakeX (w : World) (x0 x1 y2 y3 y4 p0 p1 p2 : Int) (told : Bool) (v7 : Value) (W : World) : Prop :=
  ∃ g, v7 = .pointer (some ⟨g, 0, none⟩) ∧ W.heap[g]? = some (.cells #[.int .i64 x0, .int .i64 x1, .int .i64 y2, .int .i64 y3, .int .i64 y4, .slice none 0 0, .int .i64 p0, .int .u8 p1, .int .i64 p2, .bool told] 51 (0, 0)) ∧ w.heap.size + 1 < g ∧
    W.heap[w.heap.size]? = some (.cells #[.int .i64 0, .int .i64 0, .int .i64 0, .int .i64 0, .int .i64 0, .slice none 0 0, .int .i64 0, .int .u8 0, .int .i64 0, .bool false] 51 (0, 0)) ∧ Below w.heap.size w W

set_option maxHeartbeats 8000000 in
set_option maxRecDepth 100000 in
theorem take_full (b o cp len : Nat) (w : World) (l0 : List Int) (x0 x1 x2 x3 x4 x5 x6 x7 x8 x9 x10 n : Int) (hl0 : l0.length = len)
    (hr : Kd.C (Kd.int .u8) w (some ⟨b, o, none⟩) len l0)
    (hc : len ≤ cp) (hn0 : 0 ≤ n) (hn : n ≤ 255) (h12 : 12 + n ≤ len) (hlen : len < 140737488355328)
    (b0 : 0 ≤ x0 ∧ x0 ≤ 255) (b1 : 0 ≤ x1 ∧ x1 ≤ 255)
    (b2 : 0 ≤ x2 ∧ x2 ≤ 255) (b3 : 0 ≤ x3 ∧ x3 ≤ 255) (b4 : 0 ≤ x4 ∧ x4 ≤ 255) (b5 : 0 ≤ x5 ∧ x5 ≤ 255) (b6 : 0 ≤ x6 ∧ x6 ≤ 255) (b7 : 0 ≤ x7 ∧ x7 ≤ 255)
    (b8 : 0 ≤ x8 ∧ x8 ≤ 255) (b10 : 0 ≤ x10 ∧ x10 ≤ 255)
    (c0 : w.cell? ⟨b, o, none⟩ = some (.int .u8 x0)) (c1 : w.cell? ⟨b, o + 1, none⟩ = some (.int .u8 x1)) (c2 : w.cell? ⟨b, o + 2, none⟩ = some (.int .u8 x2))
    (c3 : w.cell? ⟨b, o + 2 + 1, none⟩ = some (.int .u8 x3)) (c4 : w.cell? ⟨b, o + 4, none⟩ = some (.int .u8 x4)) (c5 : w.cell? ⟨b, o + 4 + 1, none⟩ = some (.int .u8 x5))
    (c6 : w.cell? ⟨b, o + 6, none⟩ = some (.int .u8 x6)) (c7 : w.cell? ⟨b, o + 6 + 1, none⟩ = some (.int .u8 x7)) (c8 : w.cell? ⟨b, o + 8, none⟩ = some (.int .u8 x8))
    (c9 : w.cell? ⟨b, o + 9, none⟩ = some (.int .u8 x9)) (c10 : w.cell? ⟨b, o + 10, none⟩ = some (.int .u8 x10)) (c11 : w.cell? ⟨b, o + 11, none⟩ = some (.int .u8 n)) (rok : Bool)
    (hrok : trace_right.f x0 x1 (x2 * 256 + x3) (x4 * 256 + x5) (x6 * 256 + x7) ((l0.take (12 + n).toNat).drop (12 : Int).toNat) (x8 % 16) x9 x10 (bits BinOp.and IntKind.u8 x8 16 != 0) = some rok) :
    Calls Try.prog 19 #[.slice (some ⟨b, o, none⟩) len cp] w fun e w' => ∃ (v5 : Value) (A : Option Addr) (c : Nat), e = .returned (.tuple #[.agg #[.int .i64 x0, .int .i64 x1, .int .i64 (x2 * 256 + x3), .int .i64 (x4 * 256 + x5), .int .i64 (x6 * 256 + x7), v5, .int .i64 (x8 % 16), .int .u8 x9, .int .i64 x10, .bool (bits BinOp.and IntKind.u8 x8 16 != 0)], .slice A (l0.drop (12 + n).toNat).length c, .bool (rok && decide (x8 < 32))]) ∧
      Kd.R (Kd.int .u8) 5 w' w.heap.size (fun _ => True) v5 ((l0.take (12 + n).toNat).drop (12 : Int).toNat) ∧ (∀ W, Kd.C (Kd.int .u8) W (some ⟨b, o, none⟩) len l0 → Kd.C (Kd.int .u8) W A (l0.drop (12 + n).toNat).length (l0.drop (12 + n).toNat)) ∧ (l0.drop (12 + n).toNat).length ≤ c ∧ Below w.heap.size w w' := by
  have q0 : 0 < len := by omega
  have q1 : (1:Int) < len := by omega
  have v0 : IntKind.i64.wrap x0 = x0 := wraps_i64 _ (by omega) (by omega)
  have v1 : IntKind.i64.wrap x1 = x1 := wraps_i64 _ (by omega) (by omega)
  have s2 : ∀ W : World, (Instr.slice 26 (.slice (some ⟨b, o, none⟩) len cp) (some (.int .i64 2)) none none).run Try.prog W = .ok (.slice (some ⟨b, o + 2, none⟩) (len - 2) (cp - 2)) W := cutb b o len cp 2 (by omega) (by omega)
  have s4 : ∀ W : World, (Instr.slice 26 (.slice (some ⟨b, o, none⟩) len cp) (some (.int .i64 4)) none none).run Try.prog W = .ok (.slice (some ⟨b, o + 4, none⟩) (len - 4) (cp - 4)) W := cutb b o len cp 4 (by omega) (by omega)
  have s6 : ∀ W : World, (Instr.slice 26 (.slice (some ⟨b, o, none⟩) len cp) (some (.int .i64 6)) none none).run Try.prog W = .ok (.slice (some ⟨b, o + 6, none⟩) (len - 6) (cp - 6)) W := cutb b o len cp 6 (by omega) (by omega)
  obtain ⟨i0, hi0, _, hsz0, _⟩ := info_parts info5
  obtain ⟨Am, sm, rm, lm⟩ := print_mid_of (P := Try.prog) (Value.int .u8) 0 26 5 .i64 .i64 Try.underlying26 hi0 hsz0 (some ⟨b, o, none⟩) cp l0 12 (12 + n) (by omega) (by omega) (by omega) (by omega)
  obtain ⟨Ad, sd, rd_, ld⟩ := print_drop_of (P := Try.prog) (Value.int .u8) 0 26 5 .i64 Try.underlying26 hi0 hsz0 (some ⟨b, o, none⟩) cp l0 (12 + n) (by omega) (by omega) (by omega)
  rw [hl0] at sm rm sd rd_
  have HLM : ((l0.take (12 + n).toNat).drop (12 : Int).toNat).length ≤ len := by simp; omega
  have HRM := Aside0.mk rm
  have HRD := Aside0.mk rd_
  have HR := Aside0.mk (Kd.reads_of_C (d := (0 : Int)) hr)
  have HL0 := Aside0.mk hl0
  have HROK := Aside0.mk hrok
  clear rm rd_ hr hl0 hrok hsz0 hi0
  generalize hmid : (l0.take (12 + n).toNat).drop (12 : Int).toNat = mid at *
  generalize hend : l0.drop (12 + n).toNat = rest at *
  have HMID := Aside0.mk hmid
  have HEND := Aside0.mk hend
  clear hmid hend
  have q8 : (8:Int) < len := by omega
  have q9 : (9:Int) < len := by omega
  have q10 : (10:Int) < len := by omega
  have q11 : (11:Int) < len := by omega
  have hbs : b < w.heap.size := World.block_lt_of_cell? w _ c0
  have hl12 : ¬ (len : Int) < 12 := by omega
  have hl12b : ¬ (len : Int) < 12 + n := by omega
  obtain ⟨b0, b0'⟩ := b0
  obtain ⟨b1, b1'⟩ := b1
  obtain ⟨b8, b8'⟩ := b8
  obtain ⟨b10, b10'⟩ := b10
  go_enter Try.func19, Try.ntmps19
  go_wp2_with fail
  go_region
  go_wp2_with fail
  go_cut [7] (fun v7 W => TakeX w x0 x1 (x2 * 256 + x3) (x4 * 256 + x5) (x6 * 256 + x7) (x8 % 16) x9 x10 (bits BinOp.and IntKind.u8 x8 16 != 0) v7 W)
  case first =>
    go_region_held3 (fun w' => w'.cell? ⟨b, o, none⟩ = some (.int .u8 x0) ∧ w'.cell? ⟨b, o + 1, none⟩ = some (.int .u8 x1) ∧ w'.cell? ⟨b, o + 2, none⟩ = some (.int .u8 x2) ∧ w'.cell? ⟨b, o + 2 + 1, none⟩ = some (.int .u8 x3) ∧ w'.cell? ⟨b, o + 4, none⟩ = some (.int .u8 x4) ∧ w'.cell? ⟨b, o + 4 + 1, none⟩ = some (.int .u8 x5) ∧ w'.cell? ⟨b, o + 6, none⟩ = some (.int .u8 x6) ∧ w'.cell? ⟨b, o + 6 + 1, none⟩ = some (.int .u8 x7) ∧ w'.cell? ⟨b, o + 8, none⟩ = some (.int .u8 x8) ∧ w'.cell? ⟨w.heap.size + 1, 0, none⟩ = some (.int .i64 (x8 % 16)) ∧ w'.cell? ⟨w.heap.size + 1, 1, none⟩ = some (.int .u8 x9) ∧ w'.cell? ⟨w.heap.size + 1, 2, none⟩ = some (.int .i64 x10))
      ((repeat' refine And.intro ?_ ?_) <;> first | ((first | with_reducible refine pw_cell_below (w := w) ?_ c0 | with_reducible refine pw_cell_below (w := w) ?_ c1 | with_reducible refine pw_cell_below (w := w) ?_ c2 | with_reducible refine pw_cell_below (w := w) ?_ c3 | with_reducible refine pw_cell_below (w := w) ?_ c4 | with_reducible refine pw_cell_below (w := w) ?_ c5 | with_reducible refine pw_cell_below (w := w) ?_ c6 | with_reducible refine pw_cell_below (w := w) ?_ c7 | with_reducible refine pw_cell_below (w := w) ?_ c8); (repeat (first | with_reducible exact Below.refl _ _ | with_reducible apply below_alloc | with_reducible apply pw_below_drewN | with_reducible apply below_drew1 | with_reducible apply below_drew | (with_reducible refine below_set ?_ ?hh; (case hh => omega)))); done) | go_keep)
      ((go_at_call 21; first | ((with_reducible refine (word_any b (o + 2) (len - 2) (cp - 2) x2 x3 _ (by omega) b2.1 b2.2 b3.1 b3.2 ?_ ?_).mono ?_); go_keep; go_keep; rintro e w' ⟨rfl, ⟨⟨nq, rfl⟩⟩⟩) | ((with_reducible refine (word_any b (o + 4) (len - 4) (cp - 4) x4 x5 _ (by omega) b4.1 b4.2 b5.1 b5.2 ?_ ?_).mono ?_); go_keep; go_keep; rintro e w' ⟨rfl, ⟨⟨nq, rfl⟩⟩⟩) | ((with_reducible refine (word_any b (o + 6) (len - 6) (cp - 6) x6 x7 _ (by omega) b6.1 b6.2 b7.1 b7.2 ?_ ?_).mono ?_); go_keep; go_keep; rintro e w' ⟨rfl, ⟨⟨nq, rfl⟩⟩⟩)))
    all_goals (go_wp2_with fail; go_meet)
    all_goals (refine ⟨w.heap.size + 1 + 1, rfl, ?blk, by omega, ?b2, ?below⟩; (case blk => simp only [hs_same, hs_far, hs_new, hs_old, hs_drewN, hs_drew, hs_sizeN, hs_sizeS, hs_sizeD, World.size_alloc, ne_1, ne_2, ne_3, en_1, en_2, en_3, Nat.add_right_cancel_iff, ne_eq, not_false_eq_true, Option.map_some, setIn_cells, List.setIfInBounds_toArray, List.set_cons_zero, List.set_cons_succ]); (case b2 => simp only [hs_same, hs_far, hs_new, hs_old, hs_drewN, hs_drew, hs_sizeN, hs_sizeS, hs_sizeD, World.size_alloc, ne_1, ne_2, ne_3, en_1, en_2, en_3, Nat.add_right_cancel_iff, ne_eq, not_false_eq_true, Option.map_some, setIn_cells, List.setIfInBounds_toArray, List.set_cons_zero, List.set_cons_succ]); (case below => (repeat (first | with_reducible exact Below.refl _ _ | with_reducible apply below_alloc | with_reducible apply pw_below_drewN | with_reducible apply below_drew1 | with_reducible apply below_drew | (with_reducible refine below_set ?_ ?hh; (case hh => omega))))))
  case rest =>
    obtain ⟨g, rfl, hg, hgt, hz, hb⟩ := hcut
    have HG := Aside0.mk hg
    have HZ := Aside0.mk hz
    have HB := Aside0.mk hb
    have hgs := blk_lt hg
    clear s2 s4 s6 hg hz c1 c2 c3 c4 c5 c6 c7 c9 c10 c11
    have g8 := pw_cell_below hb c8
    clear hb c0 c8
    go_wp2_with fail
    refine (slices_Clone.calls Am _ _ mid _ ?r1 rfl ?r3 ?r4).mono ?_
    case r1 => exact Kd.C_of_reads (h1 := fun _ => rfl) (HRM.out _ (Kd.reads_of_C (d := (0 : Int)) (Kd.C_below (Kd.C_of_reads (h1 := fun _ => rfl) HR.out) HB.out)))
    case r3 => omega
    case r4 => omega
    rintro e W1 ⟨v5, rfl, hR5, hB1⟩
    have k5 : W1.cell? ⟨g, 5, none⟩ = some (.slice none 0 0) := (blk_cell (blk_below HG.out hB1) 5).trans rfl
    have z5 : W1.frozen? ⟨g, 5, none⟩ = false := blk_frozen (blk_below HG.out hB1) 5
    obtain ⟨A5, c5, rfl⟩ := Kd.R_slice hR5
    have HR5 := Aside0.mk hR5
    have HB1 := Aside0.mk hB1
    clear hR5 hB1
    go_wp2_with fail
    have hg2 : (W1.setCell ⟨g, 5, none⟩ (.slice A5 mid.length c5)).heap[g]? = some (.cells #[.int .i64 x0, .int .i64 x1, .int .i64 (x2 * 256 + x3), .int .i64 (x4 * 256 + x5), .int .i64 (x6 * 256 + x7), .slice A5 mid.length c5, .int .i64 (x8 % 16), .int .u8 x9, .int .i64 x10, .bool (bits BinOp.and IntKind.u8 x8 16 != 0)] 51 (0, 0)) := by
      rw [hs_same, blk_below HG.out HB1.out]; rfl
    have hz2 : (W1.setCell ⟨g, 5, none⟩ (.slice A5 mid.length c5)).heap[w.heap.size]? = some (.cells #[.int .i64 0, .int .i64 0, .int .i64 0, .int .i64 0, .int .i64 0, .slice none 0 0, .int .i64 0, .int .u8 0, .int .i64 0, .bool false] 51 (0, 0)) := by
      rw [hs_far _ _ _ _ _ (by omega)]; exact blk_below HZ.out HB1.out
    have hb2 : Below w.heap.size w (W1.setCell ⟨g, 5, none⟩ (.slice A5 mid.length c5)) := below_set (below_then HB.out (by have := HB.out.size; omega) HB1.out) (by omega)
    have hR2 : Kd.R (Kd.int .u8) 5 (W1.setCell ⟨g, 5, none⟩ (.slice A5 mid.length c5)) w.heap.size (fun _ => True) (.slice A5 mid.length c5) mid := Kd.R_lower (Kd.R_set HR5.out (blk_below HG.out HB1.out) (by decide) 5 _) HB.out.size
    have hg8 : (W1.setCell ⟨g, 5, none⟩ (.slice A5 mid.length c5)).cell? ⟨b, o + 8, none⟩ = some (.int .u8 x8) := by
      rw [World.cell?_setCell_other _ _ _ _ (by first | (simp; done) | (simp; omega))]; exact pw_cell_below HB1.out g8
    clear k5 z5 g8 HB1 HR5 HZ HG
    generalize W1.setCell ⟨g, 5, none⟩ (.slice A5 mid.length c5) = W2 at *
    have e0 : W2.cell? ⟨g, 0, none⟩ = some (.int .i64 x0) := (blk_cell hg2 0).trans rfl
    have e1 : W2.cell? ⟨g, 1, none⟩ = some (.int .i64 x1) := (blk_cell hg2 1).trans rfl
    have e2 : W2.cell? ⟨g, 2, none⟩ = some (.int .i64 (x2 * 256 + x3)) := (blk_cell hg2 2).trans rfl
    have e3 : W2.cell? ⟨g, 3, none⟩ = some (.int .i64 (x4 * 256 + x5)) := (blk_cell hg2 3).trans rfl
    have e4 : W2.cell? ⟨g, 4, none⟩ = some (.int .i64 (x6 * 256 + x7)) := (blk_cell hg2 4).trans rfl
    have e5 : W2.cell? ⟨g, 5, none⟩ = some (.slice A5 mid.length c5) := (blk_cell hg2 5).trans rfl
    have e6 : W2.cell? ⟨g, 6, none⟩ = some (.int .i64 (x8 % 16)) := (blk_cell hg2 6).trans rfl
    have e7 : W2.cell? ⟨g, 7, none⟩ = some (.int .u8 x9) := (blk_cell hg2 7).trans rfl
    have e8 : W2.cell? ⟨g, 8, none⟩ = some (.int .i64 x10) := (blk_cell hg2 8).trans rfl
    have e9 : W2.cell? ⟨g, 9, none⟩ = some (.bool (bits BinOp.and IntKind.u8 x8 16 != 0)) := (blk_cell hg2 9).trans rfl
    have HG2 := Aside0.mk hg2
    have HZ2 := Aside0.mk hz2
    have HB2 := Aside0.mk hb2
    have HR2 := Aside0.mk hR2
    clear hg2 hz2 hb2 hR2 HB
    have hgw : g ≠ w.heap.size := by omega
    have hbw : b ≠ w.heap.size := by omega
    cases rok
    · refine start_ (n := 15) (S := fun w' => w'.cell? ⟨g, 0, none⟩ = some (.int .i64 x0) ∧ w'.cell? ⟨g, 1, none⟩ = some (.int .i64 x1) ∧ w'.cell? ⟨g, 2, none⟩ = some (.int .i64 (x2 * 256 + x3)) ∧ w'.cell? ⟨g, 3, none⟩ = some (.int .i64 (x4 * 256 + x5)) ∧ w'.cell? ⟨g, 4, none⟩ = some (.int .i64 (x6 * 256 + x7)) ∧ w'.cell? ⟨g, 5, none⟩ = some (.slice A5 mid.length c5) ∧ w'.cell? ⟨g, 6, none⟩ = some (.int .i64 (x8 % 16)) ∧ w'.cell? ⟨g, 7, none⟩ = some (.int .u8 x9) ∧ w'.cell? ⟨g, 8, none⟩ = some (.int .i64 x10) ∧ w'.cell? ⟨g, 9, none⟩ = some (.bool (bits BinOp.and IntKind.u8 x8 16 != 0)) ∧ w'.cell? ⟨b, o + 8, none⟩ = some (.int .u8 x8)) (ds := []) #[false, false, false, false, false, false, false, false, false, false, false, false, false, false, false] (by kernel_rfl) rfl rfl ⟨e0, e1, e2, e3, e4, e5, e6, e7, e8, e9, hg8⟩ (fun hHeld => ?_)
      refine pure_ (i := 1) (N := some 65) (v := ?_) (a' := ?_) #[false, true, false, false, false, false, false, false, false, false, false, false, false, false, false] rfl rfl (by kernel_rfl) (fun _ _ _ h => h) (Or.inl ⟨by rfl, ?_⟩) ?_ ?_
      rotate_left
      · intro w'
        go_simp
        with_reducible rfl
      rotate_left
      · simp only [Act.put, List.setIfInBounds_toArray, List.set_cons_zero, List.set_cons_succ, i64_w, i32_w]
        rfl
      refine pure_ (i := 2) (N := some 66) (v := ?_) (a' := ?_) #[false, true, true, false, false, false, false, false, false, false, false, false, false, false, false] rfl rfl (by kernel_rfl) (fun _ _ _ h => h) (Or.inl ⟨by rfl, ?_⟩) ?_ ?_
      rotate_left
      · intro w'
        go_simp
        with_reducible rfl
      rotate_left
      · simp only [Act.put, List.setIfInBounds_toArray, List.set_cons_zero, List.set_cons_succ, i64_w, i32_w]
        rfl
      refine pure_ (i := 3) (N := some 67) (v := ?_) (a' := ?_) #[false, true, true, true, false, false, false, false, false, false, false, false, false, false, false] rfl rfl (by kernel_rfl) (fun _ _ _ h => h) (Or.inl ⟨by rfl, ?_⟩) ?_ ?_
      rotate_left
      · intro w'
        go_simp
        with_reducible rfl
      rotate_left
      · simp only [Act.put, List.setIfInBounds_toArray, List.set_cons_zero, List.set_cons_succ, i64_w, i32_w]
        rfl
      refine take_ (i := 0) (N := some 64) (v := ?_) (a' := ?_) #[true, true, true, true, false, false, false, false, false, false, false, false, false, false, false] rfl rfl (by kernel_rfl) (fun _ _ _ h => h) (Or.inl ⟨by rfl, ?_⟩) hHeld ?_ ?_
      rotate_left
      · rintro w' ⟨s0, s1, s2, s3, s4, s5, s6, s7, s8, s9, s10⟩
        go_simp
        with_reducible rfl
      rotate_left
      · simp only [Act.put, List.setIfInBounds_toArray, List.set_cons_zero, List.set_cons_succ, i64_w, i32_w]
        rfl
      refine take_ (i := 4) (N := some 68) (v := ?_) (a' := ?_) #[true, true, true, true, true, false, false, false, false, false, false, false, false, false, false] rfl rfl (by kernel_rfl) (fun _ _ _ h => h) (Or.inl ⟨by rfl, ?_⟩) hHeld ?_ ?_
      rotate_left
      · rintro w' ⟨s0, s1, s2, s3, s4, s5, s6, s7, s8, s9, s10⟩
        go_simp
        with_reducible rfl
      rotate_left
      · simp only [Act.put, List.setIfInBounds_toArray, List.set_cons_zero, List.set_cons_succ, i64_w, i32_w]
        rfl
      refine one_ (i := 5) (N := some 69) #[true, true, true, true, true, true, false, false, false, false, false, false, false, false, false] rfl rfl (by kernel_rfl) (by decide) (fun K hK => ?_)
      refine goes_ Try.func16 (by kernel_rfl) rfl #[.agg #[.int .i64 x0, .int .i64 x1, .int .i64 (x2 * 256 + x3), .int .i64 (x4 * 256 + x5), .int .i64 (x6 * 256 + x7), .slice A5 mid.length c5, .int .i64 (x8 % 16), .int .u8 x9, .int .i64 x10, .bool (bits BinOp.and IntKind.u8 x8 16 != 0)]] (by rfl) rfl rfl (by simp only [List.map_toArray, List.map_cons, List.map_nil]; rfl) ?_
      with_reducible refine (trace_right.calls _ _ _ _ _ A5 c5 mid _ _ _ _ false _ (Kd.C_drew (Kd.R_reads' HR2.out).2.2) (Kd.R_reads' HR2.out).2.1 HROK.out).mono ?_
      rintro e w3 ⟨rfl, hb3q⟩
      refine ⟨_, rfl, ?_⟩
      have hb3 : Below W2.heap.size W2 w3 := below_then (below_drew (Below.refl _ _)) (Nat.le_refl _) hb3q
      clear hb3q
      have hz3 := blk_below HZ2.out hb3
      have zc0 : w3.cell? ⟨w.heap.size, 0, none⟩ = some (.int .i64 0) := (blk_cell hz3 0).trans rfl
      have zf0 := blk_frozen hz3 0
      have zc1 : w3.cell? ⟨w.heap.size, 1, none⟩ = some (.int .i64 0) := (blk_cell hz3 1).trans rfl
      have zf1 := blk_frozen hz3 1
      have zc2 : w3.cell? ⟨w.heap.size, 2, none⟩ = some (.int .i64 0) := (blk_cell hz3 2).trans rfl
      have zf2 := blk_frozen hz3 2
      have zc3 : w3.cell? ⟨w.heap.size, 3, none⟩ = some (.int .i64 0) := (blk_cell hz3 3).trans rfl
      have zf3 := blk_frozen hz3 3
      have zc4 : w3.cell? ⟨w.heap.size, 4, none⟩ = some (.int .i64 0) := (blk_cell hz3 4).trans rfl
      have zf4 := blk_frozen hz3 4
      have zc5 : w3.cell? ⟨w.heap.size, 5, none⟩ = some (.slice none 0 0) := (blk_cell hz3 5).trans rfl
      have zf5 := blk_frozen hz3 5
      have zc6 : w3.cell? ⟨w.heap.size, 6, none⟩ = some (.int .i64 0) := (blk_cell hz3 6).trans rfl
      have zf6 := blk_frozen hz3 6
      have zc7 : w3.cell? ⟨w.heap.size, 7, none⟩ = some (.int .u8 0) := (blk_cell hz3 7).trans rfl
      have zf7 := blk_frozen hz3 7
      have zc8 : w3.cell? ⟨w.heap.size, 8, none⟩ = some (.int .i64 0) := (blk_cell hz3 8).trans rfl
      have zf8 := blk_frozen hz3 8
      have zc9 : w3.cell? ⟨w.heap.size, 9, none⟩ = some (.bool false) := (blk_cell hz3 9).trans rfl
      have zf9 := blk_frozen hz3 9
      clear hz3
      refine hK.out _ _ ⟨pw_cell_below hb3 e0, pw_cell_below hb3 e1, pw_cell_below hb3 e2, pw_cell_below hb3 e3, pw_cell_below hb3 e4, pw_cell_below hb3 e5, pw_cell_below hb3 e6, pw_cell_below hb3 e7, pw_cell_below hb3 e8, pw_cell_below hb3 e9, pw_cell_below hb3 hg8⟩ (fun hHeld => ?_)
      clear hK K
      refine norm_ (a' := ?_) ?_ ?_
      rotate_left
      · show Act.put _ (some 69) _ = _
        simp only [Act.put, List.setIfInBounds_toArray, List.set_cons_zero, List.set_cons_succ, i64_w, i32_w]
        rfl
      refine pure_ (i := 6) (N := some 70) (v := ?_) (a' := ?_) #[true, true, true, true, true, true, true, false, false, false, false, false, false, false, false] rfl rfl (by kernel_rfl) (fun _ _ _ h => h) (Or.inl ⟨by rfl, ?_⟩) ?_ ?_
      rotate_left
      · intro w'
        go_simp
        with_reducible rfl
      rotate_left
      · simp only [Act.put, List.setIfInBounds_toArray, List.set_cons_zero, List.set_cons_succ, i64_w, i32_w]
        rfl
      refine pure_ (i := 7) (N := some 71) (v := undef) (a' := ?_) #[true, true, true, true, true, true, true, true, false, false, false, false, false, false, false] rfl rfl (by kernel_rfl) (fun _ _ _ h => h) (Or.inr ⟨by rfl, rfl⟩) ?_ ?_
      rotate_left
      · simp only [Act.put, List.setIfInBounds_toArray, List.set_cons_zero, List.set_cons_succ, i64_w, i32_w]
        rfl
      refine pure_ (i := 8) (N := some 72) (v := undef) (a' := ?_) #[true, true, true, true, true, true, true, true, true, false, false, false, false, false, false] rfl rfl (by kernel_rfl) (fun _ _ _ h => h) (Or.inr ⟨by rfl, rfl⟩) ?_ ?_
      rotate_left
      · simp only [Act.put, List.setIfInBounds_toArray, List.set_cons_zero, List.set_cons_succ, i64_w, i32_w]
        rfl
      refine pure_ (i := 9) (N := some 73) (v := undef) (a' := ?_) #[true, true, true, true, true, true, true, true, true, true, false, false, false, false, false] rfl rfl (by kernel_rfl) (fun _ _ _ h => h) (Or.inr ⟨by rfl, rfl⟩) ?_ ?_
      rotate_left
      · simp only [Act.put, List.setIfInBounds_toArray, List.set_cons_zero, List.set_cons_succ, i64_w, i32_w]
        rfl
      refine pure_ (i := 10) (N := some 74) (v := undef) (a' := ?_) #[true, true, true, true, true, true, true, true, true, true, true, false, false, false, false] rfl rfl (by kernel_rfl) (fun _ _ _ h => h) (Or.inr ⟨by rfl, rfl⟩) ?_ ?_
      rotate_left
      · simp only [Act.put, List.setIfInBounds_toArray, List.set_cons_zero, List.set_cons_succ, i64_w, i32_w]
        rfl
      refine pure_ (i := 11) (N := some 75) (v := ?_) (a' := ?_) #[true, true, true, true, true, true, true, true, true, true, true, true, false, false, false] rfl rfl (by kernel_rfl) (fun _ _ _ h => h) (Or.inl ⟨by rfl, ?_⟩) ?_ ?_
      rotate_left
      · intro w'
        go_simp
        with_reducible rfl
      rotate_left
      · simp only [Act.put, List.setIfInBounds_toArray, List.set_cons_zero, List.set_cons_succ, i64_w, i32_w]
        rfl
      refine one_ (i := 12) (N := none) #[true, true, true, true, true, true, true, true, true, true, true, true, true, false, false] rfl rfl (by kernel_rfl) (by decide) (fun K hK => ?_)
      refine skip_ (w1 := ?_) (by rfl) rfl ?_ ?_
      rotate_left
      · go_simp
        rfl
      refine hK.out _ _ ⟨(by simp only [cell_far _ _ _ _ _ _ hgw]; exact pw_cell_below hb3 e0), (by simp only [cell_far _ _ _ _ _ _ hgw]; exact pw_cell_below hb3 e1), (by simp only [cell_far _ _ _ _ _ _ hgw]; exact pw_cell_below hb3 e2), (by simp only [cell_far _ _ _ _ _ _ hgw]; exact pw_cell_below hb3 e3), (by simp only [cell_far _ _ _ _ _ _ hgw]; exact pw_cell_below hb3 e4), (by simp only [cell_far _ _ _ _ _ _ hgw]; exact pw_cell_below hb3 e5), (by simp only [cell_far _ _ _ _ _ _ hgw]; exact pw_cell_below hb3 e6), (by simp only [cell_far _ _ _ _ _ _ hgw]; exact pw_cell_below hb3 e7), (by simp only [cell_far _ _ _ _ _ _ hgw]; exact pw_cell_below hb3 e8), (by simp only [cell_far _ _ _ _ _ _ hgw]; exact pw_cell_below hb3 e9), (by simp only [cell_far _ _ _ _ _ _ hbw]; exact pw_cell_below hb3 hg8)⟩ (fun hHeld => ?_)
      clear hK K
      refine pure_ (i := 13) (N := some 3) (v := ?_) (a' := ?_) #[true, true, true, true, true, true, true, true, true, true, true, true, true, true, false] rfl rfl (by kernel_rfl) (fun _ _ _ h => h) (Or.inl ⟨by rfl, ?_⟩) ?_ ?_
      rotate_left
      · intro w'
        go_simp
        with_reducible rfl
      rotate_left
      · simp only [Act.put, List.setIfInBounds_toArray, List.set_cons_zero, List.set_cons_succ, i64_w, i32_w]
        rfl
      refine pure_ (i := 14) (N := some 4) (v := ?_) (a' := ?_) #[true, true, true, true, true, true, true, true, true, true, true, true, true, true, true] rfl rfl (by kernel_rfl) (fun _ _ _ h => h) (Or.inl ⟨by rfl, ?_⟩) ?_ ?_
      rotate_left
      · intro w'
        go_simp
        with_reducible rfl
      rotate_left
      · simp only [Act.put, List.setIfInBounds_toArray, List.set_cons_zero, List.set_cons_succ, i64_w, i32_w]
        rfl
      refine done_ (by kernel_rfl) ?_
      obtain ⟨W4, hW4⟩ : ∃ W4, W4 = ((((((((((w3.setCell ⟨w.heap.size, 0, none⟩ (.int .i64 x0)).setCell ⟨w.heap.size, 1, none⟩ (.int .i64 x1)).setCell ⟨w.heap.size, 2, none⟩ (.int .i64 (x2 * 256 + x3))).setCell ⟨w.heap.size, 3, none⟩ (.int .i64 (x4 * 256 + x5))).setCell ⟨w.heap.size, 4, none⟩ (.int .i64 (x6 * 256 + x7))).setCell ⟨w.heap.size, 5, none⟩ (.slice A5 mid.length c5)).setCell ⟨w.heap.size, 6, none⟩ (.int .i64 (x8 % 16))).setCell ⟨w.heap.size, 7, none⟩ (.int .u8 x9)).setCell ⟨w.heap.size, 8, none⟩ (.int .i64 x10)).setCell ⟨w.heap.size, 9, none⟩ (.bool (bits BinOp.and IntKind.u8 x8 16 != 0))) := ⟨_, rfl⟩
      have hb4 : Below w.heap.size w W4 := by
        have h0 : Below w.heap.size w w3 := below_then HB2.out HB2.out.size hb3
        subst hW4
        repeat (with_reducible refine below_set ?_ (Nat.le_refl _))
        exact h0
      have hz4 : W4.heap[w.heap.size]? = some (.cells #[.int .i64 x0, .int .i64 x1, .int .i64 (x2 * 256 + x3), .int .i64 (x4 * 256 + x5), .int .i64 (x6 * 256 + x7), .slice A5 mid.length c5, .int .i64 (x8 % 16), .int .u8 x9, .int .i64 x10, .bool (bits BinOp.and IntKind.u8 x8 16 != 0)] 51 (0, 0)) := by
        subst hW4
        simp only [hs_same, hs_far, hs_new, hs_old, hs_drewN, hs_drew, hs_sizeN, hs_sizeS, hs_sizeD, World.size_alloc, ne_1, ne_2, ne_3, en_1, en_2, en_3, Nat.add_right_cancel_iff, ne_eq, not_false_eq_true, Option.map_some, setIn_cells, List.setIfInBounds_toArray, List.set_cons_zero, List.set_cons_succ, blk_below HZ2.out hb3]
      have hR4 : Kd.R (Kd.int .u8) 5 W4 w.heap.size (fun _ => True) (.slice A5 mid.length c5) mid := by
        have h0 := Kd.R_types (Kd.R_below HR2.out hb3) (blk_below HZ2.out hb3) (by decide)
        refine Kd.R_mono (Kd.R_step h0 (fun k hk _ => ?_)) (fun _ _ => trivial)
        subst hW4
        simp only [hs_far _ _ _ _ _ hk.2]
      rw [← hW4]
      clear hW4 hHeld
      clear zc0 zf0 zc1 zf1 zc2 zf2 zc3 zf3 zc4 zf4 zc5 zf5 zc6 zf6 zc7 zf7 zc8 zf8 zc9 zf9
      go_wp2_with fail
      have f0 : W4.cell? ⟨w.heap.size, 0, none⟩ = some (.int .i64 x0) := (blk_cell hz4 0).trans rfl
      have f1 : W4.cell? ⟨w.heap.size, 1, none⟩ = some (.int .i64 x1) := (blk_cell hz4 1).trans rfl
      have f2 : W4.cell? ⟨w.heap.size, 2, none⟩ = some (.int .i64 (x2 * 256 + x3)) := (blk_cell hz4 2).trans rfl
      have f3 : W4.cell? ⟨w.heap.size, 3, none⟩ = some (.int .i64 (x4 * 256 + x5)) := (blk_cell hz4 3).trans rfl
      have f4 : W4.cell? ⟨w.heap.size, 4, none⟩ = some (.int .i64 (x6 * 256 + x7)) := (blk_cell hz4 4).trans rfl
      have f5 : W4.cell? ⟨w.heap.size, 5, none⟩ = some (.slice A5 mid.length c5) := (blk_cell hz4 5).trans rfl
      have f6 : W4.cell? ⟨w.heap.size, 6, none⟩ = some (.int .i64 (x8 % 16)) := (blk_cell hz4 6).trans rfl
      have f7 : W4.cell? ⟨w.heap.size, 7, none⟩ = some (.int .u8 x9) := (blk_cell hz4 7).trans rfl
      have f8 : W4.cell? ⟨w.heap.size, 8, none⟩ = some (.int .i64 x10) := (blk_cell hz4 8).trans rfl
      have f9 : W4.cell? ⟨w.heap.size, 9, none⟩ = some (.bool (bits BinOp.and IntKind.u8 x8 16 != 0)) := (blk_cell hz4 9).trans rfl
      exact bodyPost_ret (v := .tuple #[.agg #[.int .i64 x0, .int .i64 x1, .int .i64 (x2 * 256 + x3), .int .i64 (x4 * 256 + x5), .int .i64 (x6 * 256 + x7), .slice A5 mid.length c5, .int .i64 (x8 % 16), .int .u8 x9, .int .i64 x10, .bool (bits BinOp.and IntKind.u8 x8 16 != 0)], .slice Ad rest.length (cp - (12 + n).toNat), .bool (false)]) (by simp [results, Try.results19, go_sem, f0, f1, f2, f3, f4, f5, f6, f7, f8, f9]) rfl ⟨_, _, _, by simp, hR4, fun W hW => Kd.C_of_reads (h1 := fun _ => rfl) (HRD.out W (Kd.reads_of_C (d := (0 : Int)) hW)), ld, hb4⟩
    · refine start_ (n := 15) (S := fun w' => w'.cell? ⟨g, 0, none⟩ = some (.int .i64 x0) ∧ w'.cell? ⟨g, 1, none⟩ = some (.int .i64 x1) ∧ w'.cell? ⟨g, 2, none⟩ = some (.int .i64 (x2 * 256 + x3)) ∧ w'.cell? ⟨g, 3, none⟩ = some (.int .i64 (x4 * 256 + x5)) ∧ w'.cell? ⟨g, 4, none⟩ = some (.int .i64 (x6 * 256 + x7)) ∧ w'.cell? ⟨g, 5, none⟩ = some (.slice A5 mid.length c5) ∧ w'.cell? ⟨g, 6, none⟩ = some (.int .i64 (x8 % 16)) ∧ w'.cell? ⟨g, 7, none⟩ = some (.int .u8 x9) ∧ w'.cell? ⟨g, 8, none⟩ = some (.int .i64 x10) ∧ w'.cell? ⟨g, 9, none⟩ = some (.bool (bits BinOp.and IntKind.u8 x8 16 != 0)) ∧ w'.cell? ⟨b, o + 8, none⟩ = some (.int .u8 x8)) (ds := []) #[false, false, false, false, false, false, false, false, false, false, false, false, false, false, false] (by kernel_rfl) rfl rfl ⟨e0, e1, e2, e3, e4, e5, e6, e7, e8, e9, hg8⟩ (fun hHeld => ?_)
      refine pure_ (i := 1) (N := some 65) (v := ?_) (a' := ?_) #[false, true, false, false, false, false, false, false, false, false, false, false, false, false, false] rfl rfl (by kernel_rfl) (fun _ _ _ h => h) (Or.inl ⟨by rfl, ?_⟩) ?_ ?_
      rotate_left
      · intro w'
        go_simp
        with_reducible rfl
      rotate_left
      · simp only [Act.put, List.setIfInBounds_toArray, List.set_cons_zero, List.set_cons_succ, i64_w, i32_w]
        rfl
      refine pure_ (i := 2) (N := some 66) (v := ?_) (a' := ?_) #[false, true, true, false, false, false, false, false, false, false, false, false, false, false, false] rfl rfl (by kernel_rfl) (fun _ _ _ h => h) (Or.inl ⟨by rfl, ?_⟩) ?_ ?_
      rotate_left
      · intro w'
        go_simp
        with_reducible rfl
      rotate_left
      · simp only [Act.put, List.setIfInBounds_toArray, List.set_cons_zero, List.set_cons_succ, i64_w, i32_w]
        rfl
      refine pure_ (i := 3) (N := some 67) (v := ?_) (a' := ?_) #[false, true, true, true, false, false, false, false, false, false, false, false, false, false, false] rfl rfl (by kernel_rfl) (fun _ _ _ h => h) (Or.inl ⟨by rfl, ?_⟩) ?_ ?_
      rotate_left
      · intro w'
        go_simp
        with_reducible rfl
      rotate_left
      · simp only [Act.put, List.setIfInBounds_toArray, List.set_cons_zero, List.set_cons_succ, i64_w, i32_w]
        rfl
      refine take_ (i := 0) (N := some 64) (v := ?_) (a' := ?_) #[true, true, true, true, false, false, false, false, false, false, false, false, false, false, false] rfl rfl (by kernel_rfl) (fun _ _ _ h => h) (Or.inl ⟨by rfl, ?_⟩) hHeld ?_ ?_
      rotate_left
      · rintro w' ⟨s0, s1, s2, s3, s4, s5, s6, s7, s8, s9, s10⟩
        go_simp
        with_reducible rfl
      rotate_left
      · simp only [Act.put, List.setIfInBounds_toArray, List.set_cons_zero, List.set_cons_succ, i64_w, i32_w]
        rfl
      refine take_ (i := 4) (N := some 68) (v := ?_) (a' := ?_) #[true, true, true, true, true, false, false, false, false, false, false, false, false, false, false] rfl rfl (by kernel_rfl) (fun _ _ _ h => h) (Or.inl ⟨by rfl, ?_⟩) hHeld ?_ ?_
      rotate_left
      · rintro w' ⟨s0, s1, s2, s3, s4, s5, s6, s7, s8, s9, s10⟩
        go_simp
        with_reducible rfl
      rotate_left
      · simp only [Act.put, List.setIfInBounds_toArray, List.set_cons_zero, List.set_cons_succ, i64_w, i32_w]
        rfl
      refine one_ (i := 5) (N := some 69) #[true, true, true, true, true, true, false, false, false, false, false, false, false, false, false] rfl rfl (by kernel_rfl) (by decide) (fun K hK => ?_)
      refine goes_ Try.func16 (by kernel_rfl) rfl #[.agg #[.int .i64 x0, .int .i64 x1, .int .i64 (x2 * 256 + x3), .int .i64 (x4 * 256 + x5), .int .i64 (x6 * 256 + x7), .slice A5 mid.length c5, .int .i64 (x8 % 16), .int .u8 x9, .int .i64 x10, .bool (bits BinOp.and IntKind.u8 x8 16 != 0)]] (by rfl) rfl rfl (by simp only [List.map_toArray, List.map_cons, List.map_nil]; rfl) ?_
      with_reducible refine (trace_right.calls _ _ _ _ _ A5 c5 mid _ _ _ _ true _ (Kd.C_drew (Kd.R_reads' HR2.out).2.2) (Kd.R_reads' HR2.out).2.1 HROK.out).mono ?_
      rintro e w3 ⟨rfl, hb3q⟩
      refine ⟨_, rfl, ?_⟩
      have hb3 : Below W2.heap.size W2 w3 := below_then (below_drew (Below.refl _ _)) (Nat.le_refl _) hb3q
      clear hb3q
      have hz3 := blk_below HZ2.out hb3
      have zc0 : w3.cell? ⟨w.heap.size, 0, none⟩ = some (.int .i64 0) := (blk_cell hz3 0).trans rfl
      have zf0 := blk_frozen hz3 0
      have zc1 : w3.cell? ⟨w.heap.size, 1, none⟩ = some (.int .i64 0) := (blk_cell hz3 1).trans rfl
      have zf1 := blk_frozen hz3 1
      have zc2 : w3.cell? ⟨w.heap.size, 2, none⟩ = some (.int .i64 0) := (blk_cell hz3 2).trans rfl
      have zf2 := blk_frozen hz3 2
      have zc3 : w3.cell? ⟨w.heap.size, 3, none⟩ = some (.int .i64 0) := (blk_cell hz3 3).trans rfl
      have zf3 := blk_frozen hz3 3
      have zc4 : w3.cell? ⟨w.heap.size, 4, none⟩ = some (.int .i64 0) := (blk_cell hz3 4).trans rfl
      have zf4 := blk_frozen hz3 4
      have zc5 : w3.cell? ⟨w.heap.size, 5, none⟩ = some (.slice none 0 0) := (blk_cell hz3 5).trans rfl
      have zf5 := blk_frozen hz3 5
      have zc6 : w3.cell? ⟨w.heap.size, 6, none⟩ = some (.int .i64 0) := (blk_cell hz3 6).trans rfl
      have zf6 := blk_frozen hz3 6
      have zc7 : w3.cell? ⟨w.heap.size, 7, none⟩ = some (.int .u8 0) := (blk_cell hz3 7).trans rfl
      have zf7 := blk_frozen hz3 7
      have zc8 : w3.cell? ⟨w.heap.size, 8, none⟩ = some (.int .i64 0) := (blk_cell hz3 8).trans rfl
      have zf8 := blk_frozen hz3 8
      have zc9 : w3.cell? ⟨w.heap.size, 9, none⟩ = some (.bool false) := (blk_cell hz3 9).trans rfl
      have zf9 := blk_frozen hz3 9
      clear hz3
      refine hK.out _ _ ⟨pw_cell_below hb3 e0, pw_cell_below hb3 e1, pw_cell_below hb3 e2, pw_cell_below hb3 e3, pw_cell_below hb3 e4, pw_cell_below hb3 e5, pw_cell_below hb3 e6, pw_cell_below hb3 e7, pw_cell_below hb3 e8, pw_cell_below hb3 e9, pw_cell_below hb3 hg8⟩ (fun hHeld => ?_)
      clear hK K
      refine norm_ (a' := ?_) ?_ ?_
      rotate_left
      · show Act.put _ (some 69) _ = _
        simp only [Act.put, List.setIfInBounds_toArray, List.set_cons_zero, List.set_cons_succ, i64_w, i32_w]
        rfl
      refine pure_ (i := 6) (N := some 70) (v := ?_) (a' := ?_) #[true, true, true, true, true, true, true, false, false, false, false, false, false, false, false] rfl rfl (by kernel_rfl) (fun _ _ _ h => h) (Or.inl ⟨by rfl, ?_⟩) ?_ ?_
      rotate_left
      · intro w'
        go_simp
        with_reducible rfl
      rotate_left
      · simp only [Act.put, List.setIfInBounds_toArray, List.set_cons_zero, List.set_cons_succ, i64_w, i32_w]
        rfl
      refine pure_ (i := 7) (N := some 71) (v := ?_) (a' := ?_) #[true, true, true, true, true, true, true, true, false, false, false, false, false, false, false] rfl rfl (by kernel_rfl) (fun _ _ _ h => h) (Or.inl ⟨by rfl, ?_⟩) ?_ ?_
      rotate_left
      · intro w'
        go_simp
        with_reducible rfl
      rotate_left
      · simp only [Act.put, List.setIfInBounds_toArray, List.set_cons_zero, List.set_cons_succ, i64_w, i32_w]
        rfl
      refine pure_ (i := 8) (N := some 72) (v := ?_) (a' := ?_) #[true, true, true, true, true, true, true, true, true, false, false, false, false, false, false] rfl rfl (by kernel_rfl) (fun _ _ _ h => h) (Or.inl ⟨by rfl, ?_⟩) ?_ ?_
      rotate_left
      · intro w'
        go_simp
        with_reducible rfl
      rotate_left
      · simp only [Act.put, List.setIfInBounds_toArray, List.set_cons_zero, List.set_cons_succ, i64_w, i32_w]
        rfl
      refine take_ (i := 9) (N := some 73) (v := ?_) (a' := ?_) #[true, true, true, true, true, true, true, true, true, true, false, false, false, false, false] rfl rfl (by kernel_rfl) (fun _ _ _ h => h) (Or.inl ⟨by rfl, ?_⟩) hHeld ?_ ?_
      rotate_left
      · rintro w' ⟨s0, s1, s2, s3, s4, s5, s6, s7, s8, s9, s10⟩
        go_simp
        with_reducible rfl
      rotate_left
      · simp only [Act.put, List.setIfInBounds_toArray, List.set_cons_zero, List.set_cons_succ, i64_w, i32_w]
        rfl
      refine pure_ (i := 10) (N := some 74) (v := ?_) (a' := ?_) #[true, true, true, true, true, true, true, true, true, true, true, false, false, false, false] rfl rfl (by kernel_rfl) (fun _ _ _ h => h) (Or.inl ⟨by rfl, ?_⟩) ?_ ?_
      rotate_left
      · intro w'
        go_simp
        with_reducible rfl
      rotate_left
      · simp only [Act.put, List.setIfInBounds_toArray, List.set_cons_zero, List.set_cons_succ, i64_w, i32_w]
        rfl
      refine pure_ (i := 11) (N := some 75) (v := ?_) (a' := ?_) #[true, true, true, true, true, true, true, true, true, true, true, true, false, false, false] rfl rfl (by kernel_rfl) (fun _ _ _ h => h) (Or.inl ⟨by rfl, ?_⟩) ?_ ?_
      rotate_left
      · intro w'
        go_simp
        with_reducible rfl
      rotate_left
      · simp only [Act.put, List.setIfInBounds_toArray, List.set_cons_zero, List.set_cons_succ, i64_w, i32_w]
        rfl
      refine one_ (i := 12) (N := none) #[true, true, true, true, true, true, true, true, true, true, true, true, true, false, false] rfl rfl (by kernel_rfl) (by decide) (fun K hK => ?_)
      refine skip_ (w1 := ?_) (by rfl) rfl ?_ ?_
      rotate_left
      · go_simp
        rfl
      refine hK.out _ _ ⟨(by simp only [cell_far _ _ _ _ _ _ hgw]; exact pw_cell_below hb3 e0), (by simp only [cell_far _ _ _ _ _ _ hgw]; exact pw_cell_below hb3 e1), (by simp only [cell_far _ _ _ _ _ _ hgw]; exact pw_cell_below hb3 e2), (by simp only [cell_far _ _ _ _ _ _ hgw]; exact pw_cell_below hb3 e3), (by simp only [cell_far _ _ _ _ _ _ hgw]; exact pw_cell_below hb3 e4), (by simp only [cell_far _ _ _ _ _ _ hgw]; exact pw_cell_below hb3 e5), (by simp only [cell_far _ _ _ _ _ _ hgw]; exact pw_cell_below hb3 e6), (by simp only [cell_far _ _ _ _ _ _ hgw]; exact pw_cell_below hb3 e7), (by simp only [cell_far _ _ _ _ _ _ hgw]; exact pw_cell_below hb3 e8), (by simp only [cell_far _ _ _ _ _ _ hgw]; exact pw_cell_below hb3 e9), (by simp only [cell_far _ _ _ _ _ _ hbw]; exact pw_cell_below hb3 hg8)⟩ (fun hHeld => ?_)
      clear hK K
      refine pure_ (i := 13) (N := some 3) (v := ?_) (a' := ?_) #[true, true, true, true, true, true, true, true, true, true, true, true, true, true, false] rfl rfl (by kernel_rfl) (fun _ _ _ h => h) (Or.inl ⟨by rfl, ?_⟩) ?_ ?_
      rotate_left
      · intro w'
        go_simp
        with_reducible rfl
      rotate_left
      · simp only [Act.put, List.setIfInBounds_toArray, List.set_cons_zero, List.set_cons_succ, i64_w, i32_w]
        rfl
      refine pure_ (i := 14) (N := some 4) (v := ?_) (a' := ?_) #[true, true, true, true, true, true, true, true, true, true, true, true, true, true, true] rfl rfl (by kernel_rfl) (fun _ _ _ h => h) (Or.inl ⟨by rfl, ?_⟩) ?_ ?_
      rotate_left
      · intro w'
        go_simp
        with_reducible rfl
      rotate_left
      · simp only [Act.put, List.setIfInBounds_toArray, List.set_cons_zero, List.set_cons_succ, i64_w, i32_w]
        rfl
      refine done_ (by kernel_rfl) ?_
      obtain ⟨W4, hW4⟩ : ∃ W4, W4 = ((((((((((w3.setCell ⟨w.heap.size, 0, none⟩ (.int .i64 x0)).setCell ⟨w.heap.size, 1, none⟩ (.int .i64 x1)).setCell ⟨w.heap.size, 2, none⟩ (.int .i64 (x2 * 256 + x3))).setCell ⟨w.heap.size, 3, none⟩ (.int .i64 (x4 * 256 + x5))).setCell ⟨w.heap.size, 4, none⟩ (.int .i64 (x6 * 256 + x7))).setCell ⟨w.heap.size, 5, none⟩ (.slice A5 mid.length c5)).setCell ⟨w.heap.size, 6, none⟩ (.int .i64 (x8 % 16))).setCell ⟨w.heap.size, 7, none⟩ (.int .u8 x9)).setCell ⟨w.heap.size, 8, none⟩ (.int .i64 x10)).setCell ⟨w.heap.size, 9, none⟩ (.bool (bits BinOp.and IntKind.u8 x8 16 != 0))) := ⟨_, rfl⟩
      have hb4 : Below w.heap.size w W4 := by
        have h0 : Below w.heap.size w w3 := below_then HB2.out HB2.out.size hb3
        subst hW4
        repeat (with_reducible refine below_set ?_ (Nat.le_refl _))
        exact h0
      have hz4 : W4.heap[w.heap.size]? = some (.cells #[.int .i64 x0, .int .i64 x1, .int .i64 (x2 * 256 + x3), .int .i64 (x4 * 256 + x5), .int .i64 (x6 * 256 + x7), .slice A5 mid.length c5, .int .i64 (x8 % 16), .int .u8 x9, .int .i64 x10, .bool (bits BinOp.and IntKind.u8 x8 16 != 0)] 51 (0, 0)) := by
        subst hW4
        simp only [hs_same, hs_far, hs_new, hs_old, hs_drewN, hs_drew, hs_sizeN, hs_sizeS, hs_sizeD, World.size_alloc, ne_1, ne_2, ne_3, en_1, en_2, en_3, Nat.add_right_cancel_iff, ne_eq, not_false_eq_true, Option.map_some, setIn_cells, List.setIfInBounds_toArray, List.set_cons_zero, List.set_cons_succ, blk_below HZ2.out hb3]
      have hR4 : Kd.R (Kd.int .u8) 5 W4 w.heap.size (fun _ => True) (.slice A5 mid.length c5) mid := by
        have h0 := Kd.R_types (Kd.R_below HR2.out hb3) (blk_below HZ2.out hb3) (by decide)
        refine Kd.R_mono (Kd.R_step h0 (fun k hk _ => ?_)) (fun _ _ => trivial)
        subst hW4
        simp only [hs_far _ _ _ _ _ hk.2]
      rw [← hW4]
      clear hW4 hHeld
      clear zc0 zf0 zc1 zf1 zc2 zf2 zc3 zf3 zc4 zf4 zc5 zf5 zc6 zf6 zc7 zf7 zc8 zf8 zc9 zf9
      go_wp2_with fail
      have f0 : W4.cell? ⟨w.heap.size, 0, none⟩ = some (.int .i64 x0) := (blk_cell hz4 0).trans rfl
      have f1 : W4.cell? ⟨w.heap.size, 1, none⟩ = some (.int .i64 x1) := (blk_cell hz4 1).trans rfl
      have f2 : W4.cell? ⟨w.heap.size, 2, none⟩ = some (.int .i64 (x2 * 256 + x3)) := (blk_cell hz4 2).trans rfl
      have f3 : W4.cell? ⟨w.heap.size, 3, none⟩ = some (.int .i64 (x4 * 256 + x5)) := (blk_cell hz4 3).trans rfl
      have f4 : W4.cell? ⟨w.heap.size, 4, none⟩ = some (.int .i64 (x6 * 256 + x7)) := (blk_cell hz4 4).trans rfl
      have f5 : W4.cell? ⟨w.heap.size, 5, none⟩ = some (.slice A5 mid.length c5) := (blk_cell hz4 5).trans rfl
      have f6 : W4.cell? ⟨w.heap.size, 6, none⟩ = some (.int .i64 (x8 % 16)) := (blk_cell hz4 6).trans rfl
      have f7 : W4.cell? ⟨w.heap.size, 7, none⟩ = some (.int .u8 x9) := (blk_cell hz4 7).trans rfl
      have f8 : W4.cell? ⟨w.heap.size, 8, none⟩ = some (.int .i64 x10) := (blk_cell hz4 8).trans rfl
      have f9 : W4.cell? ⟨w.heap.size, 9, none⟩ = some (.bool (bits BinOp.and IntKind.u8 x8 16 != 0)) := (blk_cell hz4 9).trans rfl
      exact bodyPost_ret (v := .tuple #[.agg #[.int .i64 x0, .int .i64 x1, .int .i64 (x2 * 256 + x3), .int .i64 (x4 * 256 + x5), .int .i64 (x6 * 256 + x7), .slice A5 mid.length c5, .int .i64 (x8 % 16), .int .u8 x9, .int .i64 x10, .bool (bits BinOp.and IntKind.u8 x8 16 != 0)], .slice Ad rest.length (cp - (12 + n).toNat), .bool (decide (x8 < 32))]) (by simp [results, Try.results19, go_sem, f0, f1, f2, f3, f4, f5, f6, f7, f8, f9]) rfl ⟨_, _, _, by simp, hR4, fun W hW => Kd.C_of_reads (h1 := fun _ => rfl) (HRD.out W (Kd.reads_of_C (d := (0 : Int)) hW)), ld, hb4⟩
end Go.Proofs.Ytahagjdnjggdaaa.T
