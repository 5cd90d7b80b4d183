/- zone.Order: what it answers. -/
import Derived.Test.YtffmhpfdfcpniaaJ
namespace Go.Proofs.Ytffmhpfdfcpniaa.T
open Go.RowKit Go.Sort Go.Proofs.YtffmhpfdfcpniaaW.PrintWords Go.Proofs.YtffmhpfdfcpniaaW.PrintLast Go.Proofs.YtffmhpfdfcpniaaW.PrintMore Go.Proofs.Ytffmhpfdfcpniaa.PH
set_option linter.unusedVariables false
set_option linter.unusedSimpArgs false
/-- What is told of a machine and a node. -/
def erN (n f : Int) (cpus : List Int) (dist : List (List Int)) (node : Int) : Int := if chk n f cpus dist = 0 then (if node < 0 ∨ n ≤ node then 10 else 0) else chk n f cpus dist
theorem chk_zero {n f : Int} {cpus : List Int} {dist : List (List Int)} (h : chk n f cpus dist = 0) : ∃ k : Nat, n = (k : Int) ∧ 1 ≤ k ∧ k ≤ 8 ∧ dist.length = k ∧ (∀ a, a < k → (dist.getD a []).length = k) ∧ (∀ a, a < k → ∀ b, b < k → fit dist a b) := by
  unfold chk at h
  by_cases h1 : countsB n f cpus = true
  · rw [if_pos h1] at h
    by_cases h2 : cpB n cpus = true
    · rw [if_pos h2] at h
      by_cases h3 : mtB n.toNat dist = true
      · have hn : 1 ≤ n ∧ n ≤ 8 := by
          unfold countsB at h1
          simp only [Bool.and_eq_true, decide_eq_true_eq] at h1
          omega
        obtain ⟨k, rfl⟩ : ∃ k : Nat, n = (k : Int) := ⟨n.toNat, by omega⟩
        rw [Int.toNat_natCast] at h3
        refine ⟨k, rfl, by omega, by omega, ?_⟩
        have hl : lensB k dist = true := by
          rcases Bool.eq_false_or_eq_true (lensB k dist) with e | e
          · exact e
          · rw [mt_no_lens k dist e] at h3; cases h3
        obtain ⟨l1, l2⟩ := lens_at hl
        refine ⟨l1, l2, fun a ha b hb => ?_⟩
        by_cases hf : dd dist a b = dd dist b a ∧ fit dist a b
        · exact hf.2
        · rw [mt_no k dist a b ha hb hf] at h3; cases h3
      · rw [if_neg h3] at h; omega
    · rw [if_neg h2] at h; omega
  · rw [if_neg h1] at h; omega
theorem fit_far {n : Nat} {dist : List (List Int)} (h : ∀ a, a < n → ∀ b, b < n → fit dist a b) (a : Nat) (ha : a < n) : Far dist a n := by
  intro b hb
  have := h a ha b hb
  unfold fit at this
  split at this <;> omega
theorem ids_range (n : Nat) : ids n = (List.range n).map fun (b : Nat) => (b : Int) := by
  unfold ids
  apply List.ext_getElem
  · simp
  · intro i h1 h2; simp
theorem below_less0 (w w' : World) (o : Obj) (h : Below (w.alloc o).heap.size (w.alloc o) w') : Below w.heap.size w w' := below_then (below_alloc (Below.refl w.heap.size w) o) (by simp) h
set_option maxHeartbeats 2000000 in
set_option maxRecDepth 100000 in
theorem order_bad (n f : Int) (A : Option Addr) (ca : Nat) (cpus : List Int) (B : Option Addr) (cb : Nat) (dist : List (List Int)) (node : Int) (w : World) (hr2 : Kd.C (Kd.int .i64) w A cpus.length cpus) (hca : cpus.length ≤ ca) (hr3 : Kd.C (Kd.slice 3 (Kd.int .i64)) w B dist.length dist) (hcb : dist.length ≤ cb) (hbad : erN n f cpus dist node ≠ 0) :
    Calls Try.prog 11 #[.agg #[.int .i64 n, .int .i64 f, .slice A cpus.length ca, .slice B dist.length cb], .int .i64 node] w fun e w' => e = .returned (.tuple #[.slice none 0 0, .int .i64 (erN n f cpus dist node)]) ∧ Below w.heap.size w w' := by
  have HCK := Aside0.mk (fun (W : World) h2 h3 => check_own n f A ca cpus B cb dist W h2 hca h3 hcb)
  have HR2 := Aside0.mk hr2
  have HR3 := Aside0.mk hr3
  clear hr2 hr3
  obtain ⟨c, hc⟩ : ∃ c, chk n f cpus dist = c := ⟨_, rfl⟩
  rw [hc] at HCK
  by_cases h0 : c = 0
  · have hne : erN n f cpus dist node = 10 ∧ (node < 0 ∨ n ≤ node) := by
      unfold erN at hbad ⊢
      rw [hc, if_pos h0] at hbad ⊢
      by_cases hh : node < 0 ∨ n ≤ node
      · rw [if_pos hh]; exact ⟨rfl, hh⟩
      · rw [if_neg hh] at hbad; exact absurd rfl hbad
    rw [hne.1]
    have hor := hne.2
    subst h0
    clear hbad hne hc
    by_cases hneg : node < 0
    · have d0 : decide (node < 0) = true := decide_eq_true hneg
      go_enter Try.func11, Try.ntmps11
      go_wp2_with (first | (go_at_call 30; (with_reducible refine (HCK.out _ (Kd.C_alloc HR2.out _) (Kd.C_alloc HR3.out _)).mono ?_); rintro e_ w2 ⟨rfl, hb⟩; have HB2 := Aside0.mk (below_less0 _ _ _ hb); have HX2 := Aside0.mk ((Box.new w n f A cpus.length ca B dist.length cb).below hb); clear hb; have c0 := HX2.out.c0))
      go_ret2
      exact ⟨rfl, HB2.out⟩
    · have d0 : decide (node < 0) = false := decide_eq_false hneg
      have d1 : decide (n ≤ node) = true := decide_eq_true (by omega)
      clear hor
      go_enter Try.func11, Try.ntmps11
      go_wp2_with (first | (go_at_call 30; (with_reducible refine (HCK.out _ (Kd.C_alloc HR2.out _) (Kd.C_alloc HR3.out _)).mono ?_); rintro e_ w2 ⟨rfl, hb⟩; have HB2 := Aside0.mk (below_less0 _ _ _ hb); have HX2 := Aside0.mk ((Box.new w n f A cpus.length ca B dist.length cb).below hb); clear hb; have c0 := HX2.out.c0))
      go_ret2
      exact ⟨rfl, HB2.out⟩
  · have hne : erN n f cpus dist node = c := by unfold erN; rw [hc, if_neg h0]
    rw [hne]
    have hb0 : (c != 0) = true := by simpa using h0
    clear hbad hne hc h0
    go_enter Try.func11, Try.ntmps11
    go_wp2_with (first | (go_at_call 30; (with_reducible refine (HCK.out _ (Kd.C_alloc HR2.out _) (Kd.C_alloc HR3.out _)).mono ?_); rintro e_ w2 ⟨rfl, hb⟩; have HB2 := Aside0.mk (below_less0 _ _ _ hb); clear hb))
    go_ret2
    exact ⟨rfl, HB2.out⟩
theorem below_of_grown {w w' : World} {g B : Nat} (h : w.grownBy w' (some g)) (hB : B ≤ g) (hs : B ≤ w.heap.size) : RowKit.Below B w w' :=
  ⟨h.os, h.tape, h.output, h.size, fun k hk => h.block k (by omega) (by simp; omega)⟩
/-- The numbers ahead of i. -/
def upto (i : Nat) : List Int := (List.range i).map fun (b : Nat) => (b : Int)
theorem upto_len (i : Nat) : (upto i).length = i := by unfold upto; simp
theorem upto_succ (i : Nat) : upto (i + 1) = upto i ++ [(i : Int)] := by unfold upto; rw [List.range_succ, List.map_append]; rfl
def RelO (w : World) (n : Nat) (v25 v7 : Value) (wr : World) : Prop :=
  ∃ i : Nat, v25 = .int .i64 i ∧ i ≤ n ∧ wr.ownsRow w.heap.size 3 1 v7 (upto i).length (nums .i64 (upto i)) ∧ Below w.heap.size w wr
set_option maxHeartbeats 4000000 in
set_option maxRecDepth 100000 in
theorem order_good (n a : Nat) (f : Int) (A : Option Addr) (ca : Nat) (cpus : List Int) (B : Option Addr) (cb : Nat) (dist : List (List Int)) (w : World) (hr2 : Kd.C (Kd.int .i64) w A cpus.length cpus) (hca : cpus.length ≤ ca) (hr3 : Kd.C (Kd.slice 3 (Kd.int .i64)) w B dist.length dist) (hcb : dist.length ≤ cb) (hck : chk n f cpus dist = 0) (hlt : a < n) :
    Calls Try.prog 11 #[.agg #[.int .i64 n, .int .i64 f, .slice A cpus.length ca, .slice B dist.length cb], .int .i64 a] w fun e w' => ∃ v, e = .returned (.tuple #[v, .int .i64 0]) ∧ w'.ownsRow w.heap.size 3 1 v (ordL dist a n).length (nums .i64 (ordL dist a n)) ∧ Below w.heap.size w w' := by
  obtain ⟨k, hk, h1, h8, hdl, hrl, hfit⟩ := chk_zero hck
  obtain rfl : n = k := by omega
  clear hk
  have HFAR := Aside0.mk (fit_far hfit a hlt)
  have HROW := Aside0.mk (hrl a hlt)
  have HDL := Aside0.mk hdl
  have HCK := Aside0.mk (fun (W : World) h2 h3 => hck ▸ check_own n f A ca cpus B cb dist W h2 hca h3 hcb)
  have HR2 := Aside0.mk hr2
  have HR3 := Aside0.mk hr3
  clear hr2 hr3 hck hfit hrl hdl
  have d0 : decide ((a : Int) < 0) = false := decide_eq_false (by omega)
  have d1 : decide (n ≤ a) = false := decide_eq_false (by omega)
  have a0 : (0 : Int) ≤ (a : Int) := by omega
  have aI : (a : Int) < (n : Int) := by omega
  go_enter Try.func11, Try.ntmps11
  go_upto_region 2 with (first | (go_at_call 30; (with_reducible refine (HCK.out _ (Kd.C_alloc HR2.out _) (Kd.C_alloc HR3.out _)).mono ?_); rintro e_ w2 ⟨rfl, hb⟩; have HB2 := Aside0.mk (below_less0 _ _ _ hb); have HX2 := Aside0.mk ((Box.new w n f A cpus.length ca B dist.length cb).below hb); clear hb; have c0 := HX2.out.c0))
  obtain ⟨b, hbw⟩ : ∃ b, w.heap.size = b := ⟨_, rfl⟩
  have HBW := Aside0.mk hbw
  rw [hbw] at HX2 c0 ⊢
  clear hbw
  have H0 := Aside0.mk (show RelO w2 n (.int .i64 0) (.slice none 0 0) w2 from ⟨0, rfl, Nat.zero_le _, own_nil _ _ _ _, Below.refl _ _⟩)
  go_wp2_with fail
  go_loopw [25, 7, 8] (fun v25 v7 _ wr => RelO w2 n v25 v7 wr) (fun v25 _ _ _ => n - (intOf v25).toNat)
  case atStart => exact H0.out
  case round =>
    clear H0
    obtain ⟨i, rfl, hi, hO, hB⟩ := hrel
    have HO := Aside0.mk hO
    have HB := Aside0.mk hB
    clear hO hB
    by_cases hin : i < n
    · have hib : decide (i < n) = true := decide_eq_true hin
      clear d0 d1 a0 aI c0
      go_wp2_with (first | ((with_reducible refine gate_builtin (b := .append) (xs := #[.tmp 28, .tmp 30]) rfl ?_); at_builtin; refine print_append_num (w0 := w2) w2.heap.size rfl (.tmp 28) (.tmp 30) 22 3 .i64 8 rfl Try.underlying22 info3 (by decide) u7 (upto i) (i : Int) rfl rfl HO.out HB.out HB.out.size (by rw [upto_len]; omega) ?_; intro v1 w1 ho hb hg hat; rw [← upto_succ] at ho; have HO2 := Aside0.mk ho; have HB3 := Aside0.mk hb; clear ho hb hg hat))
      go_roundw
      case rel => exact ⟨i + 1, by go_num, by omega, HO2.out, HB3.out⟩
      case measure => simp [intOf]; omega
    · obtain rfl : i = n := by omega
      have hib : decide (i < i) = false := decide_eq_false hin
      have c3 := (HX2.out.below HB.out).c3
      rw [HDL.out] at c3
      obtain ⟨ad, A0, cc, rfl, p0, hcc, hrd⟩ := at_L1 HR3.out (a : Int) a0 (by rw [HDL.out]; omega)
      rw [Int.toNat_natCast] at p0
      rw [rdl] at p0 hcc hrd
      rw [HROW.out] at p0 hcc hrd
      have p0 := pw_cell_below HB.out (pw_cell_below HB2.out p0)
      have HRD := Aside0.mk hrd
      clear c0 d0 d1 hrd
      obtain ⟨hlen, hor⟩ := HO.out
      rw [upto_len] at hor
      rcases hor with ⟨_, h0⟩ | ⟨g, cap, cur, rfl, hgb, hgh, hnc, hcm, hcs, htk⟩
      · omega
      have HGB := Aside0.mk hgb
      have HGH := Aside0.mk hgh
      have HNC := Aside0.mk hnc
      have HCM := Aside0.mk hcm
      have HCS := Aside0.mk hcs
      have HTK := Aside0.mk htk
      clear hgb hgh hnc hcm hcs htk hlen HO
      obtain ⟨rb, ro, rfl, hcell⟩ := reads_plain HRD.out h1
      have HCELL := Aside0.mk hcell
      have HRB := Aside0.mk (World.block_lt_of_cell? w _ (hcell 0 h1))
      clear hcell
      go_upto_region 13 with fail
      obtain ⟨W, hW⟩ : ∃ W, wr.alloc (.cells #[.slice (some ⟨rb, ro, none⟩) i cc] 22) = W := ⟨_, rfl⟩
      have HWB := Aside0.mk (show RowKit.Below wr.heap.size wr W from hW ▸ below_alloc (RowKit.Below.refl _ _) _)
      have HWC := Aside0.mk (show W.cell? ⟨wr.heap.size, 0, none⟩ = some (.slice (some ⟨rb, ro, none⟩) i cc) by rw [← hW]; simp only [World.cell?, heap_alloc_new]; rfl)
      have HWS := Aside0.mk (show wr.heap.size < W.heap.size by rw [← hW, World.size_alloc]; omega)
      rw [hW]
      have hz1 := HB2.out.size
      have hz2 := HB.out.size
      have hz3 := HWB.out.size
      have hgl : g < wr.heap.size := (Array.getElem?_eq_some_iff.1 HGH.out).1
      have hw2g := HGB.out
      have hrb : rb < w.heap.size := HRB.out
      have HGW := Aside0.mk (show W.heap[g]? = some (.cells cur 3 (0, 0)) from (HWB.out.block g hgl).trans HGH.out)
      have HALL := Aside0.mk (show RowKit.Below w.heap.size w W from below_then HB2.out hz1 (below_then HB.out hz2 HWB.out))
      have SORT := Aside0.mk (sort_own i a wr.heap.size rb ro cc g cap cur dist W h1 h8 HFAR.out HGW.out (by rw [ids_range]; have := HTK.out; rw [Nat.mul_one] at this; exact this) HWC.out (by omega) HWS.out (fun j hj => by
        have := HALL.out.cell (p := ⟨rb, ro + j, none⟩) HRB.out
        rw [this, HCELL.out j hj, ← rdl, rd_dd]) (by omega) (by omega))
      have hll : (ordL dist a i).length = (ids i).length := by rw [ordL_len dist a i HFAR.out]; unfold ids; simp
      have hil : (ids i).length = i := by unfold ids; simp
      have HOWN := Aside0.mk (fun m os => Go.ownsRow_sortedI (w := W) (base := w.heap.size) (cap := cap) (n := m) (os := os) (ss := ids i) (ts := ordL dist a i) hll (by omega) HGW.out (by rw [hil]; exact HNC.out) HCM.out HCS.out)
      have HGR := Aside0.mk (fun m os => Go.grownBy_sortedI (w := W) (g := g) (n := m) (os := os) (ordL dist a i).toArray)
      rw [hil] at HOWN
      have HLL := Aside0.mk (hll.trans hil)
      have HBF := Aside0.mk (show w.heap.size ≤ g ∧ w.heap.size ≤ W.heap.size by omega)
      clear hll hil HGB HGH HNC HCM HCS HTK hz1 hz2 hz3 hgl hw2g hrb HWB HWC HWS HGW hW HRB HCELL c3 p0
      go_wp2_with (first | (go_at_call 31; (with_reducible refine SORT.out.mono ?_); rintro e_ w4 ⟨rfl, m, os, hw4⟩; have HW4 := Aside0.mk hw4; clear hw4))
      go_ret2
      refine ⟨_, rfl, ?_, ?_⟩
      · rw [HLL.out, HW4.out]; exact HOWN.out m os
      · rw [HW4.out]; exact HALL.out.trans (below_of_grown (HGR.out m os) HBF.out.1 HBF.out.2)
end Go.Proofs.Ytffmhpfdfcpniaa.T
