/- The walk of messuageref27.Same: are two rows of steps the same? No condition. -/
import Derived.Test.YtahagjdnjggdaaaB
import Derived.Outline
import Derived.Deep.RegionHeld3
import Derived.Deep.DeepCutAuto
namespace Go.Proofs.Ytahagjdnjggdaaa.T
open Go.RowKit Go.Proofs.YtahagjdnjggdaaaW.PrintWords Go.Proofs.YtahagjdnjggdaaaW.PrintLast Go.Proofs.YtahagjdnjggdaaaW.PrintMore
set_option linter.unusedVariables false
set_option linter.unusedSimpArgs false
theorem neq43 (a b c a' b' c' : Int) (w : World) : (binOp .neq 43 (.agg #[.int .i64 a, .int .u8 b, .int .i64 c]) (.agg #[.int .i64 a', .int .u8 b', .int .i64 c'])).run Try.prog w = .ok (.bool (!(a == a' && (b == b' && c == c')))) w := by
  have h : ∀ d : Nat, (Op.equalIn (d + 2) 43 (.agg #[.int .i64 a, .int .u8 b, .int .i64 c]) (.agg #[.int .i64 a', .int .u8 b', .int .i64 c'])).run Try.prog w = .ok (a == a' && (b == b' && c == c')) w := by
    intro d
    refine eqA_of Try.underlying43 (by kernel_rfl) ?_
    refine eqf_cons (by rfl) (by go_simp; rfl) (by go_simp; rfl) (by go_simp) ?_
    refine eqf_cons (by rfl) (by go_simp; rfl) (by go_simp; rfl) (by go_simp) ?_
    exact eqf_last (by rfl) (by go_simp; rfl) (by go_simp; rfl) (by go_simp)
  have h2 := h 9998
  simp only [binOp]
  simp [Op.equal, Op.maxDepth, h2]
def diff45 (x y : S45) (sx sy : ByteArray) : Bool := (x.f0 != y.f0) || ((x.f1 != y.f1) || ((x.f2 != y.f2) || ((x.f3 != y.f3) || ((x.f4 != y.f4) || ((sx.toList != sy.toList) || (!(x.f6.f0 == y.f6.f0 && (x.f6.f1 == y.f6.f1 && x.f6.f2 == y.f6.f2)) || (x.f7 != y.f7)))))))
def eq45 (x y : S45) : Bool := !diff45 x y (strOfNums x.f5) (strOfNums y.f5)
def sameL (a b : List S45) : Bool := decide (a.length = b.length) && (List.range a.length).all (fun j => eq45 (rd_T45 a (j : Int)) (rd_T45 b (j : Int)))
def messuageref27_Same.f (_k : Nat) (l0 l1 : List S45) : Option Bool := some (sameL l0 l1)
theorem messuageref27_Same.mono : ∀ a0 a1 k, LeO (messuageref27_Same.f k a0 a1) (messuageref27_Same.f (k + 1) a0 a1) := fun _ _ _ _ h => h
def Cut6 (wr : World) (x y : S45) (Ax Ay : Option Addr) (cx cy : Nat) (v6 v7 : Value) (W : World) : Prop :=
  ∃ g6 g7, v6 = .pointer (some ⟨g6, 0, none⟩) ∧ v7 = .pointer (some ⟨g7, 0, none⟩) ∧ W.heap[g6]? = some (.cells #[.int .i64 x.f0, .int .i64 x.f1, .int .i64 x.f2, .int .i64 x.f3, .int .i64 x.f4, .slice Ax x.f5.length cx, .int .i64 x.f6.f0, .int .u8 x.f6.f1, .int .i64 x.f6.f2, .bool x.f7] 45 (0, 0)) ∧ W.heap[g7]? = some (.cells #[.int .i64 y.f0, .int .i64 y.f1, .int .i64 y.f2, .int .i64 y.f3, .int .i64 y.f4, .slice Ay y.f5.length cy, .int .i64 y.f6.f0, .int .u8 y.f6.f1, .int .i64 y.f6.f2, .bool y.f7] 45 (0, 0)) ∧ Below wr.heap.size wr W
def RelS (w : World) (l0 l1 : List S45) (s5 : Value) (wr : World) : Prop :=
  ∃ k : Nat, s5 = .int .i64 k ∧ k ≤ l0.length ∧ (∀ j, j < k → eq45 (rd_T45 l0 (j : Int)) (rd_T45 l1 (j : Int)) = true) ∧ Below w.heap.size w wr
theorem sameL_true {a b : List S45} (h : a.length = b.length) (he : ∀ j, j < a.length → eq45 (rd_T45 a (j : Int)) (rd_T45 b (j : Int)) = true) : sameL a b = true := by
  unfold sameL
  rw [decide_eq_true h, Bool.true_and, List.all_eq_true]
  intro j hj
  exact he j (List.mem_range.1 hj)
theorem sameL_false {a b : List S45} (j : Nat) (hj : j < a.length) (he : eq45 (rd_T45 a (j : Int)) (rd_T45 b (j : Int)) = false) : sameL a b = false := by
  unfold sameL
  rw [Bool.and_eq_false_iff]
  refine .inr ?_
  rw [List.all_eq_false]
  exact ⟨j, List.mem_range.2 hj, by rw [he]; simp⟩
theorem sameL_len {a b : List S45} (h : a.length ≠ b.length) : sameL a b = false := by
  unfold sameL
  rw [decide_eq_false h]; rfl

set_option maxHeartbeats 8000000 in
set_option maxRecDepth 100000 in
theorem same_any (A0 : Option Addr) (c0 : Nat) (l0 : List (S45)) (A1 : Option Addr) (c1 : Nat) (l1 : List (S45)) (w : World) (hr0 : Kd.C k45 w A0 l0.length l0) (hc0 : l0.length ≤ c0) (hr1 : Kd.C k45 w A1 l1.length l1) (hc1 : l1.length ≤ c1) (hlen : l0.length = l1.length) :
    Calls Try.prog 11 #[.slice A0 l0.length c0, .slice A1 l1.length c1] w fun e w' => e = .returned (.bool (sameL l0 l1)) ∧ Below w.heap.size w w' := by
  have H0 := Aside0.mk (show RelS w l0 l1 (.int .i64 0) w from ⟨0, rfl, by omega, fun _ h => by omega, Below.refl _ _⟩)
  have hmax : l0.length ≤ 9223372036854775807 := hr0.2.1
  have HR0 := Aside0.mk hr0
  have HR1 := Aside0.mk hr1
  have HLEN := Aside0.mk hlen
  have hne : ((l0.length : Int) != (l1.length : Int)) = false := by rw [hlen]; simp
  clear hr0 hr1 hlen
  go_enter Try.func11, Try.ntmps11
  go_wp2_with fail
  go_loopw [5] (fun s5 wr => RelS w l0 l1 s5 wr) (fun s5 _ => l0.length - (intOf s5).toNat)
  case atStart => exact H0.out
  case round =>
    obtain ⟨k, rfl, hk, heq, hB⟩ := hrel
    have HEQ := Aside0.mk heq
    have HB := Aside0.mk hB
    clear heq hB
    by_cases hlt : k < l0.length
    · have hk0 : (0 : Int) ≤ (k : Int) := by omega
      have hk1 : (k : Int) < (l0.length : Int) := by omega
      have hk2 : (k : Int) < (l1.length : Int) := by have := HLEN.out; omega
      obtain ⟨ad0, Ax, cx, rfl, p0, p1, p2, p3, p4, p5, p6, p7, p8, p9, lx, gx⟩ := at_T45 (Kd.C_below HR0.out HB.out) (k : Int) hk0 hk1
      obtain ⟨ad1, Ay, cy, rfl, q0, q1, q2, q3, q4, q5, q6, q7, q8, q9, ly, gy⟩ := at_T45 (Kd.C_below HR1.out HB.out) (k : Int) hk0 hk2
      obtain ⟨x, hx⟩ : ∃ x, rd_T45 l0 (k : Int) = x := ⟨_, rfl⟩
      obtain ⟨y, hy⟩ : ∃ y, rd_T45 l1 (k : Int) = y := ⟨_, rfl⟩
      rw [hx] at p0 p1 p2 p3 p4 p5 p6 p7 p8 p9 lx gx
      rw [hy] at q0 q1 q2 q3 q4 q5 q6 q7 q8 q9 ly gy
      simp only [Int.toNat_natCast] at p0 p1 p2 p3 p4 p5 p6 p7 p8 p9 q0 q1 q2 q3 q4 q5 q6 q7 q8 q9
      have hbp := World.block_lt_of_cell? wr _ p0
      have hbq := World.block_lt_of_cell? wr _ q0
      have HX := Aside0.mk hx
      have HY := Aside0.mk hy
      have HGX := Aside0.mk gx
      have HGY := Aside0.mk gy
      clear hx hy gx gy
      go_wp2_with fail
      go_cut [6, 7] (fun v6 v7 W => Cut6 wr x y Ax Ay cx cy v6 v7 W)
      case first =>
        go_region_held3 (fun w' => w'.cell? (ad0.add (k * 10)) = some (.int .i64 x.f0) ∧ w'.cell? ⟨(ad0.add (k * 10)).block, (ad0.add (k * 10)).off + 1, none⟩ = some (.int .i64 x.f1) ∧ w'.cell? ⟨(ad0.add (k * 10)).block, (ad0.add (k * 10)).off + 2, none⟩ = some (.int .i64 x.f2) ∧ w'.cell? ⟨(ad0.add (k * 10)).block, (ad0.add (k * 10)).off + 3, none⟩ = some (.int .i64 x.f3) ∧ w'.cell? ⟨(ad0.add (k * 10)).block, (ad0.add (k * 10)).off + 4, none⟩ = some (.int .i64 x.f4) ∧ w'.cell? ⟨(ad0.add (k * 10)).block, (ad0.add (k * 10)).off + 5, none⟩ = some (.slice Ax x.f5.length cx) ∧ w'.cell? ⟨(ad0.add (k * 10)).block, (ad0.add (k * 10)).off + 6, none⟩ = some (.int .i64 x.f6.f0) ∧ w'.cell? ⟨(ad0.add (k * 10)).block, (ad0.add (k * 10)).off + 7, none⟩ = some (.int .u8 x.f6.f1) ∧ w'.cell? ⟨(ad0.add (k * 10)).block, (ad0.add (k * 10)).off + 8, none⟩ = some (.int .i64 x.f6.f2) ∧ w'.cell? ⟨(ad0.add (k * 10)).block, (ad0.add (k * 10)).off + 9, none⟩ = some (.bool x.f7) ∧ w'.cell? (ad1.add (k * 10)) = some (.int .i64 y.f0) ∧ w'.cell? ⟨(ad1.add (k * 10)).block, (ad1.add (k * 10)).off + 1, none⟩ = some (.int .i64 y.f1) ∧ w'.cell? ⟨(ad1.add (k * 10)).block, (ad1.add (k * 10)).off + 2, none⟩ = some (.int .i64 y.f2) ∧ w'.cell? ⟨(ad1.add (k * 10)).block, (ad1.add (k * 10)).off + 3, none⟩ = some (.int .i64 y.f3) ∧ w'.cell? ⟨(ad1.add (k * 10)).block, (ad1.add (k * 10)).off + 4, none⟩ = some (.int .i64 y.f4) ∧ w'.cell? ⟨(ad1.add (k * 10)).block, (ad1.add (k * 10)).off + 5, none⟩ = some (.slice Ay y.f5.length cy) ∧ w'.cell? ⟨(ad1.add (k * 10)).block, (ad1.add (k * 10)).off + 6, none⟩ = some (.int .i64 y.f6.f0) ∧ w'.cell? ⟨(ad1.add (k * 10)).block, (ad1.add (k * 10)).off + 7, none⟩ = some (.int .u8 y.f6.f1) ∧ w'.cell? ⟨(ad1.add (k * 10)).block, (ad1.add (k * 10)).off + 8, none⟩ = some (.int .i64 y.f6.f2) ∧ w'.cell? ⟨(ad1.add (k * 10)).block, (ad1.add (k * 10)).off + 9, none⟩ = some (.bool y.f7))
          ((repeat' refine And.intro ?_ ?_) <;> first | with_reducible assumption | ((first | with_reducible refine pw_cell_below (w := wr) ?_ p0 | with_reducible refine pw_cell_below (w := wr) ?_ p1 | with_reducible refine pw_cell_below (w := wr) ?_ p2 | with_reducible refine pw_cell_below (w := wr) ?_ p3 | with_reducible refine pw_cell_below (w := wr) ?_ p4 | with_reducible refine pw_cell_below (w := wr) ?_ p5 | with_reducible refine pw_cell_below (w := wr) ?_ p6 | with_reducible refine pw_cell_below (w := wr) ?_ p7 | with_reducible refine pw_cell_below (w := wr) ?_ p8 | with_reducible refine pw_cell_below (w := wr) ?_ p9 | with_reducible refine pw_cell_below (w := wr) ?_ q0 | with_reducible refine pw_cell_below (w := wr) ?_ q1 | with_reducible refine pw_cell_below (w := wr) ?_ q2 | with_reducible refine pw_cell_below (w := wr) ?_ q3 | with_reducible refine pw_cell_below (w := wr) ?_ q4 | with_reducible refine pw_cell_below (w := wr) ?_ q5 | with_reducible refine pw_cell_below (w := wr) ?_ q6 | with_reducible refine pw_cell_below (w := wr) ?_ q7 | with_reducible refine pw_cell_below (w := wr) ?_ q8 | with_reducible refine pw_cell_below (w := wr) ?_ q9); (repeat (first | with_reducible exact Below.refl _ _ | with_reducible apply below_alloc | with_reducible apply pw_below_drewN | with_reducible apply below_drew1 | with_reducible apply below_drew | (with_reducible refine below_set ?_ ?hh; (case hh => first | exact Nat.le_refl _ | (simp; done) | omega)))); done))
          (fail)
        all_goals (go_wp2_with fail; go_meet)
        all_goals (first | (refine ⟨wr.heap.size, wr.heap.size + 1, rfl, rfl, ?_, ?_, ?_⟩; simp only [hs_same, hs_far, hs_new, hs_old, hs_drewN, hs_drew, hs_sizeN, hs_sizeS, hs_sizeD, World.size_alloc, ne_1, ne_2, ne_3, en_1, en_2, en_3, Nat.add_right_cancel_iff, ne_eq, not_false_eq_true, Option.map_some, setIn_cells, List.setIfInBounds_toArray, List.set_cons_zero, List.set_cons_succ]; simp only [hs_same, hs_far, hs_new, hs_old, hs_drewN, hs_drew, hs_sizeN, hs_sizeS, hs_sizeD, World.size_alloc, ne_1, ne_2, ne_3, en_1, en_2, en_3, Nat.add_right_cancel_iff, ne_eq, not_false_eq_true, Option.map_some, setIn_cells, List.setIfInBounds_toArray, List.set_cons_zero, List.set_cons_succ]; (repeat (first | with_reducible exact Below.refl _ _ | with_reducible apply below_alloc | with_reducible apply pw_below_drewN | with_reducible apply below_drew1 | with_reducible apply below_drew | (with_reducible refine below_set ?_ ?hh; (case hh => first | exact Nat.le_refl _ | (simp; done) | omega)))); done) | (refine ⟨wr.heap.size + 1, wr.heap.size, rfl, rfl, ?_, ?_, ?_⟩; simp only [hs_same, hs_far, hs_new, hs_old, hs_drewN, hs_drew, hs_sizeN, hs_sizeS, hs_sizeD, World.size_alloc, ne_1, ne_2, ne_3, en_1, en_2, en_3, Nat.add_right_cancel_iff, ne_eq, not_false_eq_true, Option.map_some, setIn_cells, List.setIfInBounds_toArray, List.set_cons_zero, List.set_cons_succ]; simp only [hs_same, hs_far, hs_new, hs_old, hs_drewN, hs_drew, hs_sizeN, hs_sizeS, hs_sizeD, World.size_alloc, ne_1, ne_2, ne_3, en_1, en_2, en_3, Nat.add_right_cancel_iff, ne_eq, not_false_eq_true, Option.map_some, setIn_cells, List.setIfInBounds_toArray, List.set_cons_zero, List.set_cons_succ]; (repeat (first | with_reducible exact Below.refl _ _ | with_reducible apply below_alloc | with_reducible apply pw_below_drewN | with_reducible apply below_drew1 | with_reducible apply below_drew | (with_reducible refine below_set ?_ ?hh; (case hh => first | exact Nat.le_refl _ | (simp; done) | omega)))); done))
      case rest =>
        obtain ⟨g6, g7, rfl, rfl, h6, h7, hb6⟩ := hcut
        have e0 : wc.cell? ⟨g6, 0, none⟩ = some (.int .i64 x.f0) := (blk_cell h6 0).trans rfl
        have f0 : wc.cell? ⟨g7, 0, none⟩ = some (.int .i64 y.f0) := (blk_cell h7 0).trans rfl
        have e1 : wc.cell? ⟨g6, 1, none⟩ = some (.int .i64 x.f1) := (blk_cell h6 1).trans rfl
        have f1 : wc.cell? ⟨g7, 1, none⟩ = some (.int .i64 y.f1) := (blk_cell h7 1).trans rfl
        have e2 : wc.cell? ⟨g6, 2, none⟩ = some (.int .i64 x.f2) := (blk_cell h6 2).trans rfl
        have f2 : wc.cell? ⟨g7, 2, none⟩ = some (.int .i64 y.f2) := (blk_cell h7 2).trans rfl
        have e3 : wc.cell? ⟨g6, 3, none⟩ = some (.int .i64 x.f3) := (blk_cell h6 3).trans rfl
        have f3 : wc.cell? ⟨g7, 3, none⟩ = some (.int .i64 y.f3) := (blk_cell h7 3).trans rfl
        have e4 : wc.cell? ⟨g6, 4, none⟩ = some (.int .i64 x.f4) := (blk_cell h6 4).trans rfl
        have f4 : wc.cell? ⟨g7, 4, none⟩ = some (.int .i64 y.f4) := (blk_cell h7 4).trans rfl
        have e5 : wc.cell? ⟨g6, 5, none⟩ = some (.slice Ax x.f5.length cx) := (blk_cell h6 5).trans rfl
        have f5 : wc.cell? ⟨g7, 5, none⟩ = some (.slice Ay y.f5.length cy) := (blk_cell h7 5).trans rfl
        have e6 : wc.cell? ⟨g6, 6, none⟩ = some (.int .i64 x.f6.f0) := (blk_cell h6 6).trans rfl
        have f6 : wc.cell? ⟨g7, 6, none⟩ = some (.int .i64 y.f6.f0) := (blk_cell h7 6).trans rfl
        have e7 : wc.cell? ⟨g6, 7, none⟩ = some (.int .u8 x.f6.f1) := (blk_cell h6 7).trans rfl
        have f7 : wc.cell? ⟨g7, 7, none⟩ = some (.int .u8 y.f6.f1) := (blk_cell h7 7).trans rfl
        have e8 : wc.cell? ⟨g6, 8, none⟩ = some (.int .i64 x.f6.f2) := (blk_cell h6 8).trans rfl
        have f8 : wc.cell? ⟨g7, 8, none⟩ = some (.int .i64 y.f6.f2) := (blk_cell h7 8).trans rfl
        have e9 : wc.cell? ⟨g6, 9, none⟩ = some (.bool x.f7) := (blk_cell h6 9).trans rfl
        have f9 : wc.cell? ⟨g7, 9, none⟩ = some (.bool y.f7) := (blk_cell h7 9).trans rfl
        have kx := Kd.C_string Try.underlying26 Try.underlying5 Try.underlying9 (c := cx) (Kd.C_below HGX.out hb6)
        have ky := Kd.C_string Try.underlying26 Try.underlying5 Try.underlying9 (c := cy) (Kd.C_below HGY.out hb6)
        obtain ⟨sx, hsx⟩ : ∃ s, strOfNums x.f5 = s := ⟨_, rfl⟩
        obtain ⟨sy, hsy⟩ : ∃ s, strOfNums y.f5 = s := ⟨_, rfl⟩
        rw [hsx] at kx
        rw [hsy] at ky
        have HSX := Aside0.mk hsx
        have HSY := Aside0.mk hsy
        have HB6 := Aside0.mk hb6
        clear hsx hsy hb6 h6 h7 p0 p1 p2 p3 p4 p5 p6 p7 p8 p9 q0 q1 q2 q3 q4 q5 q6 q7 q8 q9
        go_upto_region 7 with (fail)
        go_cut [82] (fun v W => v = .bool (diff45 x y sx sy) ∧ W = wc)
        case first =>
          cases D0q : (x.f0 == y.f0)
          · have D0 := Aside0.mk D0q
            clear D0q
            have hdiff : diff45 x y sx sy = true := by unfold diff45; simp only [bne, D0.out]; rfl
            have HDIFF := Aside0.mk hdiff
            clear hdiff
            have da0 : (x.f0 == y.f0) = false := D0.out
            have db0 : (x.f0 != y.f0) = true := by rw [bne, D0.out]; rfl
            have dc0 : (x.f0 = y.f0) = False := by have h := D0.out; simpa using h
            go_wp2_with fail
            go_meet
            exact ⟨by rw [HDIFF.out], rfl⟩
          · have D0 := Aside0.mk D0q
            clear D0q
            cases D1q : (x.f1 == y.f1)
            · have D1 := Aside0.mk D1q
              clear D1q
              have hdiff : diff45 x y sx sy = true := by unfold diff45; simp only [bne, D0.out, D1.out]; rfl
              have HDIFF := Aside0.mk hdiff
              clear hdiff
              have da0 : (x.f0 == y.f0) = true := D0.out
              have db0 : (x.f0 != y.f0) = false := by rw [bne, D0.out]; rfl
              have dc0 : (x.f0 = y.f0) = True := by have h := D0.out; simpa using h
              have da1 : (x.f1 == y.f1) = false := D1.out
              have db1 : (x.f1 != y.f1) = true := by rw [bne, D1.out]; rfl
              have dc1 : (x.f1 = y.f1) = False := by have h := D1.out; simpa using h
              go_wp2_with fail
              go_meet
              exact ⟨by rw [HDIFF.out], rfl⟩
            · have D1 := Aside0.mk D1q
              clear D1q
              cases D2q : (x.f2 == y.f2)
              · have D2 := Aside0.mk D2q
                clear D2q
                have hdiff : diff45 x y sx sy = true := by unfold diff45; simp only [bne, D0.out, D1.out, D2.out]; rfl
                have HDIFF := Aside0.mk hdiff
                clear hdiff
                have da0 : (x.f0 == y.f0) = true := D0.out
                have db0 : (x.f0 != y.f0) = false := by rw [bne, D0.out]; rfl
                have dc0 : (x.f0 = y.f0) = True := by have h := D0.out; simpa using h
                have da1 : (x.f1 == y.f1) = true := D1.out
                have db1 : (x.f1 != y.f1) = false := by rw [bne, D1.out]; rfl
                have dc1 : (x.f1 = y.f1) = True := by have h := D1.out; simpa using h
                have da2 : (x.f2 == y.f2) = false := D2.out
                have db2 : (x.f2 != y.f2) = true := by rw [bne, D2.out]; rfl
                have dc2 : (x.f2 = y.f2) = False := by have h := D2.out; simpa using h
                go_wp2_with fail
                go_meet
                exact ⟨by rw [HDIFF.out], rfl⟩
              · have D2 := Aside0.mk D2q
                clear D2q
                cases D3q : (x.f3 == y.f3)
                · have D3 := Aside0.mk D3q
                  clear D3q
                  have hdiff : diff45 x y sx sy = true := by unfold diff45; simp only [bne, D0.out, D1.out, D2.out, D3.out]; rfl
                  have HDIFF := Aside0.mk hdiff
                  clear hdiff
                  have da0 : (x.f0 == y.f0) = true := D0.out
                  have db0 : (x.f0 != y.f0) = false := by rw [bne, D0.out]; rfl
                  have dc0 : (x.f0 = y.f0) = True := by have h := D0.out; simpa using h
                  have da1 : (x.f1 == y.f1) = true := D1.out
                  have db1 : (x.f1 != y.f1) = false := by rw [bne, D1.out]; rfl
                  have dc1 : (x.f1 = y.f1) = True := by have h := D1.out; simpa using h
                  have da2 : (x.f2 == y.f2) = true := D2.out
                  have db2 : (x.f2 != y.f2) = false := by rw [bne, D2.out]; rfl
                  have dc2 : (x.f2 = y.f2) = True := by have h := D2.out; simpa using h
                  have da3 : (x.f3 == y.f3) = false := D3.out
                  have db3 : (x.f3 != y.f3) = true := by rw [bne, D3.out]; rfl
                  have dc3 : (x.f3 = y.f3) = False := by have h := D3.out; simpa using h
                  go_wp2_with fail
                  go_meet
                  exact ⟨by rw [HDIFF.out], rfl⟩
                · have D3 := Aside0.mk D3q
                  clear D3q
                  cases D4q : (x.f4 == y.f4)
                  · have D4 := Aside0.mk D4q
                    clear D4q
                    have hdiff : diff45 x y sx sy = true := by unfold diff45; simp only [bne, D0.out, D1.out, D2.out, D3.out, D4.out]; rfl
                    have HDIFF := Aside0.mk hdiff
                    clear hdiff
                    have da0 : (x.f0 == y.f0) = true := D0.out
                    have db0 : (x.f0 != y.f0) = false := by rw [bne, D0.out]; rfl
                    have dc0 : (x.f0 = y.f0) = True := by have h := D0.out; simpa using h
                    have da1 : (x.f1 == y.f1) = true := D1.out
                    have db1 : (x.f1 != y.f1) = false := by rw [bne, D1.out]; rfl
                    have dc1 : (x.f1 = y.f1) = True := by have h := D1.out; simpa using h
                    have da2 : (x.f2 == y.f2) = true := D2.out
                    have db2 : (x.f2 != y.f2) = false := by rw [bne, D2.out]; rfl
                    have dc2 : (x.f2 = y.f2) = True := by have h := D2.out; simpa using h
                    have da3 : (x.f3 == y.f3) = true := D3.out
                    have db3 : (x.f3 != y.f3) = false := by rw [bne, D3.out]; rfl
                    have dc3 : (x.f3 = y.f3) = True := by have h := D3.out; simpa using h
                    have da4 : (x.f4 == y.f4) = false := D4.out
                    have db4 : (x.f4 != y.f4) = true := by rw [bne, D4.out]; rfl
                    have dc4 : (x.f4 = y.f4) = False := by have h := D4.out; simpa using h
                    go_wp2_with fail
                    go_meet
                    exact ⟨by rw [HDIFF.out], rfl⟩
                  · have D4 := Aside0.mk D4q
                    clear D4q
                    cases D5q : (sx.toList == sy.toList)
                    · have D5 := Aside0.mk D5q
                      clear D5q
                      have hdiff : diff45 x y sx sy = true := by unfold diff45; simp only [bne, D0.out, D1.out, D2.out, D3.out, D4.out, D5.out]; rfl
                      have HDIFF := Aside0.mk hdiff
                      clear hdiff
                      have da0 : (x.f0 == y.f0) = true := D0.out
                      have db0 : (x.f0 != y.f0) = false := by rw [bne, D0.out]; rfl
                      have dc0 : (x.f0 = y.f0) = True := by have h := D0.out; simpa using h
                      have da1 : (x.f1 == y.f1) = true := D1.out
                      have db1 : (x.f1 != y.f1) = false := by rw [bne, D1.out]; rfl
                      have dc1 : (x.f1 = y.f1) = True := by have h := D1.out; simpa using h
                      have da2 : (x.f2 == y.f2) = true := D2.out
                      have db2 : (x.f2 != y.f2) = false := by rw [bne, D2.out]; rfl
                      have dc2 : (x.f2 = y.f2) = True := by have h := D2.out; simpa using h
                      have da3 : (x.f3 == y.f3) = true := D3.out
                      have db3 : (x.f3 != y.f3) = false := by rw [bne, D3.out]; rfl
                      have dc3 : (x.f3 = y.f3) = True := by have h := D3.out; simpa using h
                      have da4 : (x.f4 == y.f4) = true := D4.out
                      have db4 : (x.f4 != y.f4) = false := by rw [bne, D4.out]; rfl
                      have dc4 : (x.f4 = y.f4) = True := by have h := D4.out; simpa using h
                      have da5 : (sx.toList == sy.toList) = false := D5.out
                      have db5 : (sx.toList != sy.toList) = true := by rw [bne, D5.out]; rfl
                      have dc5 : (sx.toList = sy.toList) = False := by have h := D5.out; simpa using h
                      go_wp2_with fail
                      go_meet
                      exact ⟨by rw [HDIFF.out], rfl⟩
                    · have D5 := Aside0.mk D5q
                      clear D5q
                      cases D6q : (x.f6.f0 == y.f6.f0)
                      · have D6 := Aside0.mk D6q
                        clear D6q
                        have hdiff : diff45 x y sx sy = true := by unfold diff45; simp only [bne, D0.out, D1.out, D2.out, D3.out, D4.out, D5.out, D6.out]; rfl
                        have HDIFF := Aside0.mk hdiff
                        clear hdiff
                        have da0 : (x.f0 == y.f0) = true := D0.out
                        have db0 : (x.f0 != y.f0) = false := by rw [bne, D0.out]; rfl
                        have dc0 : (x.f0 = y.f0) = True := by have h := D0.out; simpa using h
                        have da1 : (x.f1 == y.f1) = true := D1.out
                        have db1 : (x.f1 != y.f1) = false := by rw [bne, D1.out]; rfl
                        have dc1 : (x.f1 = y.f1) = True := by have h := D1.out; simpa using h
                        have da2 : (x.f2 == y.f2) = true := D2.out
                        have db2 : (x.f2 != y.f2) = false := by rw [bne, D2.out]; rfl
                        have dc2 : (x.f2 = y.f2) = True := by have h := D2.out; simpa using h
                        have da3 : (x.f3 == y.f3) = true := D3.out
                        have db3 : (x.f3 != y.f3) = false := by rw [bne, D3.out]; rfl
                        have dc3 : (x.f3 = y.f3) = True := by have h := D3.out; simpa using h
                        have da4 : (x.f4 == y.f4) = true := D4.out
                        have db4 : (x.f4 != y.f4) = false := by rw [bne, D4.out]; rfl
                        have dc4 : (x.f4 = y.f4) = True := by have h := D4.out; simpa using h
                        have da5 : (sx.toList == sy.toList) = true := D5.out
                        have db5 : (sx.toList != sy.toList) = false := by rw [bne, D5.out]; rfl
                        have dc5 : (sx.toList = sy.toList) = True := by have h := D5.out; simpa using h
                        have da6 : (x.f6.f0 == y.f6.f0) = false := D6.out
                        have db6 : (x.f6.f0 != y.f6.f0) = true := by rw [bne, D6.out]; rfl
                        have dc6 : (x.f6.f0 = y.f6.f0) = False := by have h := D6.out; simpa using h
                        go_wp2_with fail
                        go_meet
                        exact ⟨by rw [HDIFF.out], rfl⟩
                      · have D6 := Aside0.mk D6q
                        clear D6q
                        cases D7q : (x.f6.f1 == y.f6.f1)
                        · have D7 := Aside0.mk D7q
                          clear D7q
                          have hdiff : diff45 x y sx sy = true := by unfold diff45; simp only [bne, D0.out, D1.out, D2.out, D3.out, D4.out, D5.out, D6.out, D7.out]; rfl
                          have HDIFF := Aside0.mk hdiff
                          clear hdiff
                          have da0 : (x.f0 == y.f0) = true := D0.out
                          have db0 : (x.f0 != y.f0) = false := by rw [bne, D0.out]; rfl
                          have dc0 : (x.f0 = y.f0) = True := by have h := D0.out; simpa using h
                          have da1 : (x.f1 == y.f1) = true := D1.out
                          have db1 : (x.f1 != y.f1) = false := by rw [bne, D1.out]; rfl
                          have dc1 : (x.f1 = y.f1) = True := by have h := D1.out; simpa using h
                          have da2 : (x.f2 == y.f2) = true := D2.out
                          have db2 : (x.f2 != y.f2) = false := by rw [bne, D2.out]; rfl
                          have dc2 : (x.f2 = y.f2) = True := by have h := D2.out; simpa using h
                          have da3 : (x.f3 == y.f3) = true := D3.out
                          have db3 : (x.f3 != y.f3) = false := by rw [bne, D3.out]; rfl
                          have dc3 : (x.f3 = y.f3) = True := by have h := D3.out; simpa using h
                          have da4 : (x.f4 == y.f4) = true := D4.out
                          have db4 : (x.f4 != y.f4) = false := by rw [bne, D4.out]; rfl
                          have dc4 : (x.f4 = y.f4) = True := by have h := D4.out; simpa using h
                          have da5 : (sx.toList == sy.toList) = true := D5.out
                          have db5 : (sx.toList != sy.toList) = false := by rw [bne, D5.out]; rfl
                          have dc5 : (sx.toList = sy.toList) = True := by have h := D5.out; simpa using h
                          have da6 : (x.f6.f0 == y.f6.f0) = true := D6.out
                          have db6 : (x.f6.f0 != y.f6.f0) = false := by rw [bne, D6.out]; rfl
                          have dc6 : (x.f6.f0 = y.f6.f0) = True := by have h := D6.out; simpa using h
                          have da7 : (x.f6.f1 == y.f6.f1) = false := D7.out
                          have db7 : (x.f6.f1 != y.f6.f1) = true := by rw [bne, D7.out]; rfl
                          have dc7 : (x.f6.f1 = y.f6.f1) = False := by have h := D7.out; simpa using h
                          go_wp2_with fail
                          go_meet
                          exact ⟨by rw [HDIFF.out], rfl⟩
                        · have D7 := Aside0.mk D7q
                          clear D7q
                          cases D8q : (x.f6.f2 == y.f6.f2)
                          · have D8 := Aside0.mk D8q
                            clear D8q
                            have hdiff : diff45 x y sx sy = true := by unfold diff45; simp only [bne, D0.out, D1.out, D2.out, D3.out, D4.out, D5.out, D6.out, D7.out, D8.out]; rfl
                            have HDIFF := Aside0.mk hdiff
                            clear hdiff
                            have da0 : (x.f0 == y.f0) = true := D0.out
                            have db0 : (x.f0 != y.f0) = false := by rw [bne, D0.out]; rfl
                            have dc0 : (x.f0 = y.f0) = True := by have h := D0.out; simpa using h
                            have da1 : (x.f1 == y.f1) = true := D1.out
                            have db1 : (x.f1 != y.f1) = false := by rw [bne, D1.out]; rfl
                            have dc1 : (x.f1 = y.f1) = True := by have h := D1.out; simpa using h
                            have da2 : (x.f2 == y.f2) = true := D2.out
                            have db2 : (x.f2 != y.f2) = false := by rw [bne, D2.out]; rfl
                            have dc2 : (x.f2 = y.f2) = True := by have h := D2.out; simpa using h
                            have da3 : (x.f3 == y.f3) = true := D3.out
                            have db3 : (x.f3 != y.f3) = false := by rw [bne, D3.out]; rfl
                            have dc3 : (x.f3 = y.f3) = True := by have h := D3.out; simpa using h
                            have da4 : (x.f4 == y.f4) = true := D4.out
                            have db4 : (x.f4 != y.f4) = false := by rw [bne, D4.out]; rfl
                            have dc4 : (x.f4 = y.f4) = True := by have h := D4.out; simpa using h
                            have da5 : (sx.toList == sy.toList) = true := D5.out
                            have db5 : (sx.toList != sy.toList) = false := by rw [bne, D5.out]; rfl
                            have dc5 : (sx.toList = sy.toList) = True := by have h := D5.out; simpa using h
                            have da6 : (x.f6.f0 == y.f6.f0) = true := D6.out
                            have db6 : (x.f6.f0 != y.f6.f0) = false := by rw [bne, D6.out]; rfl
                            have dc6 : (x.f6.f0 = y.f6.f0) = True := by have h := D6.out; simpa using h
                            have da7 : (x.f6.f1 == y.f6.f1) = true := D7.out
                            have db7 : (x.f6.f1 != y.f6.f1) = false := by rw [bne, D7.out]; rfl
                            have dc7 : (x.f6.f1 = y.f6.f1) = True := by have h := D7.out; simpa using h
                            have da8 : (x.f6.f2 == y.f6.f2) = false := D8.out
                            have db8 : (x.f6.f2 != y.f6.f2) = true := by rw [bne, D8.out]; rfl
                            have dc8 : (x.f6.f2 = y.f6.f2) = False := by have h := D8.out; simpa using h
                            go_wp2_with fail
                            go_meet
                            exact ⟨by rw [HDIFF.out], rfl⟩
                          · have D8 := Aside0.mk D8q
                            clear D8q
                            cases D9q : (x.f7 == y.f7)
                            · have D9 := Aside0.mk D9q
                              clear D9q
                              have hdiff : diff45 x y sx sy = true := by unfold diff45; simp only [bne, D0.out, D1.out, D2.out, D3.out, D4.out, D5.out, D6.out, D7.out, D8.out, D9.out]; rfl
                              have HDIFF := Aside0.mk hdiff
                              clear hdiff
                              have da0 : (x.f0 == y.f0) = true := D0.out
                              have db0 : (x.f0 != y.f0) = false := by rw [bne, D0.out]; rfl
                              have dc0 : (x.f0 = y.f0) = True := by have h := D0.out; simpa using h
                              have da1 : (x.f1 == y.f1) = true := D1.out
                              have db1 : (x.f1 != y.f1) = false := by rw [bne, D1.out]; rfl
                              have dc1 : (x.f1 = y.f1) = True := by have h := D1.out; simpa using h
                              have da2 : (x.f2 == y.f2) = true := D2.out
                              have db2 : (x.f2 != y.f2) = false := by rw [bne, D2.out]; rfl
                              have dc2 : (x.f2 = y.f2) = True := by have h := D2.out; simpa using h
                              have da3 : (x.f3 == y.f3) = true := D3.out
                              have db3 : (x.f3 != y.f3) = false := by rw [bne, D3.out]; rfl
                              have dc3 : (x.f3 = y.f3) = True := by have h := D3.out; simpa using h
                              have da4 : (x.f4 == y.f4) = true := D4.out
                              have db4 : (x.f4 != y.f4) = false := by rw [bne, D4.out]; rfl
                              have dc4 : (x.f4 = y.f4) = True := by have h := D4.out; simpa using h
                              have da5 : (sx.toList == sy.toList) = true := D5.out
                              have db5 : (sx.toList != sy.toList) = false := by rw [bne, D5.out]; rfl
                              have dc5 : (sx.toList = sy.toList) = True := by have h := D5.out; simpa using h
                              have da6 : (x.f6.f0 == y.f6.f0) = true := D6.out
                              have db6 : (x.f6.f0 != y.f6.f0) = false := by rw [bne, D6.out]; rfl
                              have dc6 : (x.f6.f0 = y.f6.f0) = True := by have h := D6.out; simpa using h
                              have da7 : (x.f6.f1 == y.f6.f1) = true := D7.out
                              have db7 : (x.f6.f1 != y.f6.f1) = false := by rw [bne, D7.out]; rfl
                              have dc7 : (x.f6.f1 = y.f6.f1) = True := by have h := D7.out; simpa using h
                              have da8 : (x.f6.f2 == y.f6.f2) = true := D8.out
                              have db8 : (x.f6.f2 != y.f6.f2) = false := by rw [bne, D8.out]; rfl
                              have dc8 : (x.f6.f2 = y.f6.f2) = True := by have h := D8.out; simpa using h
                              have da9 : (x.f7 == y.f7) = false := D9.out
                              have db9 : (x.f7 != y.f7) = true := by rw [bne, D9.out]; rfl
                              have dc9 : (x.f7 = y.f7) = False := by have h := D9.out; simpa using h
                              go_wp2_with fail
                              go_meet
                              exact ⟨by rw [HDIFF.out], rfl⟩
                            · have D9 := Aside0.mk D9q
                              clear D9q
                              have hdiff : diff45 x y sx sy = false := by unfold diff45; simp only [bne, D0.out, D1.out, D2.out, D3.out, D4.out, D5.out, D6.out, D7.out, D8.out, D9.out]; rfl
                              have HDIFF := Aside0.mk hdiff
                              clear hdiff
                              have da0 : (x.f0 == y.f0) = true := D0.out
                              have db0 : (x.f0 != y.f0) = false := by rw [bne, D0.out]; rfl
                              have dc0 : (x.f0 = y.f0) = True := by have h := D0.out; simpa using h
                              have da1 : (x.f1 == y.f1) = true := D1.out
                              have db1 : (x.f1 != y.f1) = false := by rw [bne, D1.out]; rfl
                              have dc1 : (x.f1 = y.f1) = True := by have h := D1.out; simpa using h
                              have da2 : (x.f2 == y.f2) = true := D2.out
                              have db2 : (x.f2 != y.f2) = false := by rw [bne, D2.out]; rfl
                              have dc2 : (x.f2 = y.f2) = True := by have h := D2.out; simpa using h
                              have da3 : (x.f3 == y.f3) = true := D3.out
                              have db3 : (x.f3 != y.f3) = false := by rw [bne, D3.out]; rfl
                              have dc3 : (x.f3 = y.f3) = True := by have h := D3.out; simpa using h
                              have da4 : (x.f4 == y.f4) = true := D4.out
                              have db4 : (x.f4 != y.f4) = false := by rw [bne, D4.out]; rfl
                              have dc4 : (x.f4 = y.f4) = True := by have h := D4.out; simpa using h
                              have da5 : (sx.toList == sy.toList) = true := D5.out
                              have db5 : (sx.toList != sy.toList) = false := by rw [bne, D5.out]; rfl
                              have dc5 : (sx.toList = sy.toList) = True := by have h := D5.out; simpa using h
                              have da6 : (x.f6.f0 == y.f6.f0) = true := D6.out
                              have db6 : (x.f6.f0 != y.f6.f0) = false := by rw [bne, D6.out]; rfl
                              have dc6 : (x.f6.f0 = y.f6.f0) = True := by have h := D6.out; simpa using h
                              have da7 : (x.f6.f1 == y.f6.f1) = true := D7.out
                              have db7 : (x.f6.f1 != y.f6.f1) = false := by rw [bne, D7.out]; rfl
                              have dc7 : (x.f6.f1 = y.f6.f1) = True := by have h := D7.out; simpa using h
                              have da8 : (x.f6.f2 == y.f6.f2) = true := D8.out
                              have db8 : (x.f6.f2 != y.f6.f2) = false := by rw [bne, D8.out]; rfl
                              have dc8 : (x.f6.f2 = y.f6.f2) = True := by have h := D8.out; simpa using h
                              have da9 : (x.f7 == y.f7) = true := D9.out
                              have db9 : (x.f7 != y.f7) = false := by rw [bne, D9.out]; rfl
                              have dc9 : (x.f7 = y.f7) = True := by have h := D9.out; simpa using h
                              go_wp2_with fail
                              go_meet
                              exact ⟨by rw [HDIFF.out], rfl⟩
        case rest =>
          obtain ⟨rfl, rfl⟩ := hcut
          have hEQ : eq45 (rd_T45 l0 (k : Int)) (rd_T45 l1 (k : Int)) = !diff45 x y sx sy := by
            unfold eq45
            rw [HX.out, HY.out, HSX.out, HSY.out]
          cases hd : diff45 x y sx sy
          · rw [hd] at hEQ
            have HEQ2 := Aside0.mk hEQ
            clear hEQ hd
            go_wp2_with fail
            go_roundw
            case rel =>
              refine ⟨k + 1, by go_num, by omega, fun j hj => ?_, below_then HB.out HB.out.size HB6.out⟩
              rcases Nat.lt_or_ge j k with h | h
              · exact HEQ.out j h
              · obtain rfl : j = k := by omega
                exact HEQ2.out
            case measure => simp [intOf]; omega
          · rw [hd] at hEQ
            have HEQ2 := Aside0.mk hEQ
            clear hEQ hd
            go_wp2_with fail
            go_ret
            exact ⟨by rw [sameL_false k hlt HEQ2.out]; rfl, below_then HB.out HB.out.size HB6.out⟩
    · have hge : ¬ (k : Int) < (l0.length : Int) := by omega
      go_wp2_with fail
      go_ret
      exact ⟨by rw [sameL_true HLEN.out (fun j hj => HEQ.out j (by omega))]; rfl, HB.out⟩

theorem messuageref27_Same.calls (k : Nat) (A0 : Option Addr) (c0 : Nat) (l0 : List (S45)) (A1 : Option Addr) (c1 : Nat) (l1 : List (S45)) (r : Bool) (w : World) (hr0 : Kd.C k45 w A0 l0.length l0) (hc0 : l0.length ≤ c0) (hr1 : Kd.C k45 w A1 l1.length l1) (hc1 : l1.length ≤ c1) (h : messuageref27_Same.f k l0 l1 = some r) :
    Calls Try.prog 11 #[.slice A0 l0.length c0, .slice A1 l1.length c1] w fun e w' => e = .returned (.bool r) ∧ Below w.heap.size w w' := by
  obtain rfl : sameL l0 l1 = r := Option.some.inj h
  by_cases hlen : l0.length = l1.length
  · exact same_any A0 c0 l0 A1 c1 l1 w hr0 hc0 hr1 hc1 hlen
  · have hne : ((l0.length : Int) != (l1.length : Int)) = true := by rw [bne_iff_ne]; omega
    have HS := Aside0.mk (sameL_len hlen)
    clear hr0 hr1 h hlen
    go_enter Try.func11, Try.ntmps11
    go_wp2_with fail
    go_ret
    exact ⟨by rw [HS.out]; rfl, Below.refl _ _⟩
end Go.Proofs.Ytahagjdnjggdaaa.T
