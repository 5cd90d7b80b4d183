import Derived.Test.YtenkdmloolbdaaaGreatDoorE22
import Derived.Test.YtenkdmloolbdaaaGreatDoorE04
set_option linter.unusedVariables false
set_option linter.unusedSimpArgs false
set_option maxHeartbeats 8000000
set_option maxRecDepth 100000
section
namespace Go.Proofs.YtenkdmloolbdaaaGreatDoor.TZ
open Go.RowKit Go.Proofs.YtenkdmloolbdaaaGreatDoorW.PrintWords Go.Proofs.YtenkdmloolbdaaaGreatDoorW.PrintLast Go.Proofs.YtenkdmloolbdaaaGreatDoorW.PrintMore Go.Proofs.YtenkdmloolbdaaaGreatDoor.PH
attribute [local go_sem] max2_int min2_int max_two min_two
theorem set_block {w : World} {b i : Nat} {cs : Array Value} {t : TypeId} {fr : Nat × Nat} (h : w.heap[b]? = some (.cells cs t fr)) (v : Value) : (w.setCell ⟨b, i, none⟩ v).heap[b]? = some (.cells (cs.setIfInBounds i v) t fr) := by
 unfold World.setCell
 rw [Array.getElem?_modify]
 simp [h]
def Blk (w : World) (b : Nat) (cs : Array Value) (t : TypeId) : Prop := w.heap[b]? = some (.cells cs t (0, 0))
section
variable {w w' : World} {b : Nat} {cs : Array Value} {t : TypeId}
theorem Blk.at (h : Blk w b cs t) (i : Nat) (v : Value) (hv : cs[i]? = some v) : w.cell? ⟨b, i, none⟩ = some v := by simp only [World.cell?]; rw [show w.heap[b]? = _ from h]; exact hv
theorem Blk.fz (h : Blk w b cs t) (i : Nat) : w.frozen? ⟨b, i, none⟩ = false := by simp only [World.frozen?]; rw [show w.heap[b]? = _ from h]; simp
theorem Blk.below (h : Blk w b cs t) (hb : RowKit.Below w.heap.size w w') : Blk w' b cs t := (hb.block b (Array.getElem?_eq_some_iff.1 (show w.heap[b]? = _ from h)).1).trans h
theorem Blk.alloc (h : Blk w b cs t) (o : Obj) : Blk (w.alloc o) b cs t := h.below (below_alloc (RowKit.Below.refl _ _) _)
theorem Blk.new (w : World) (cs : Array Value) (t : TypeId) : Blk (w.alloc (.cells cs t)) w.heap.size cs t := heap_alloc_new _ _
theorem Blk.new1 (w : World) (o : Obj) (cs : Array Value) (t : TypeId) : Blk ((w.alloc o).alloc (.cells cs t)) (w.heap.size + 1) cs t := by
 have := Blk.new (w.alloc o) cs t
 rw [World.size_alloc] at this
 exact this
theorem Blk.new2 (w : World) (o o2 : Obj) (cs : Array Value) (t : TypeId) : Blk (((w.alloc o).alloc o2).alloc (.cells cs t)) (w.heap.size + 1 + 1) cs t := by
 have := Blk.new ((w.alloc o).alloc o2) cs t
 rw [World.size_alloc, World.size_alloc] at this
 exact this
theorem Blk.set (h : Blk w b cs t) (i : Nat) (v : Value) : Blk (w.setCell ⟨b, i, none⟩ v) b (cs.setIfInBounds i v) t := set_block h v
theorem Blk.other (h : Blk w b cs t) (p : Addr) (hp : b ≠ p.block) (u : Value) : Blk (w.setCell p u) b cs t := (RowKit.Below.heap_setCell w p u b hp).trans h
theorem Blk.put3 {a0 a1 a2 : Value} (h : Blk w b #[a0, a1, a2] t) (v0 v1 v2 : Value) : Blk (((w.setCell ⟨b, 0, none⟩ v0).setCell ⟨b, 1, none⟩ v1).setCell ⟨b, 2, none⟩ v2) b #[v0, v1, v2] t := ((h.set 0 v0).set 1 v1).set 2 v2
theorem below_put3 {B0 : Nat} {w0 : World} (h : RowKit.Below B0 w0 w) (hb : B0 ≤ b) (v0 v1 v2 : Value) : RowKit.Below B0 w0 (((w.setCell ⟨b, 0, none⟩ v0).setCell ⟨b, 1, none⟩ v1).setCell ⟨b, 2, none⟩ v2) :=
 RowKit.Below.setCell (p := ⟨b, 2, none⟩) (RowKit.Below.setCell (p := ⟨b, 1, none⟩) (RowKit.Below.setCell (p := ⟨b, 0, none⟩) h hb _) hb _) hb _
end
theorem chk_cpus {n f : Int} {cpus : List Int} {dist : List (List Int)} (h : chk n f cpus dist = 0) : ∀ x ∈ cpus, 0 ≤ x ∧ x < n := by
 unfold chk at h
 by_cases h1 : countsB n f cpus = true
 ·rw [if_pos h1] at h
  by_cases h2 : cpB n cpus = true
  ·intro x hx
   unfold cpB at h2
   simp only [List.all_eq_true] at h2
   have := h2 x hx
   simp at this
   omega
  ·rw [if_neg h2] at h; simp at h
 ·rw [if_neg h1] at h; simp at h
def chV (n f : Int) (cs : List Int) (ds : List (List Int)) (m s nd cpu cur : Int) (may : List Bool) : Int × Int × Int × Int :=
 if chk n f cs ds = 0 then (if cpu < 0 ∨ (cs.length : Int) ≤ cpu then (0, 0, 0, 11) else if polR m s nd n = 0 then
  ((nearR may (inL (permR m s n) (ordL ds (startR m s nd (rd cs cpu) cur).1.toNat n.toNat))).getD 0, (startR m s nd (rd cs cpu) cur).1, (startR m s nd (rd cs cpu) cur).2,
   if (nearR may (inL (permR m s n) (ordL ds (startR m s nd (rd cs cpu) cur).1.toNat n.toNat))).isSome = true then 0 else 5) else (0, 0, 0, polR m s nd n)) else (0, 0, 0, chk n f cs ds)
theorem node_own (n f : Int) (A : Option Addr) (ca : Nat) (cs : List Int) (B : Option Addr) (cb : Nat) (ds : List (List Int)) (m : Int) (s : Nat) (hs : s < 256) (nd cpu cur : Int) (M : Option Addr) (cm : Nat) (may : List Bool) (w : World) (hr2 : Kd.C (Kd.int .i64) w A cs.length cs) (hca : cs.length ≤ ca) (hr3 : Kd.C (Kd.slice 3 (Kd.int .i64)) w B ds.length ds) (hcb : ds.length ≤ cb) (hrm : Kd.C Kd.bool w M may.length may) :
 Calls Tryz.prog 52 #[.agg #[.int .i64 n, .int .i64 f, .slice A cs.length ca, .slice B ds.length cb], .agg #[.int .i64 m, .int .u8 s, .int .i64 nd], .int .i64 cpu, .int .i64 cur, .slice M may.length cm] w fun e w' => e = .returned (.tuple #[.agg #[.int .i64 (chV n f cs ds m s nd cpu cur may).1, .int .i64 (chV n f cs ds m s nd cpu cur may).2.1, .int .i64 (chV n f cs ds m s nd cpu cur may).2.2.1], .int .i64 (chV n f cs ds m s nd cpu cur may).2.2.2]) ∧ RowKit.Below w.heap.size w w' := by
 have HC2 := ak hr2
 have HC3 := ak hr3
 have HCM := ak hrm
 obtain ⟨c, hc⟩ : ∃ c, chk n f cs ds = c := ⟨_, rfl⟩
 have HCK := ak (show ∀ W : World, RowKit.Below w.heap.size w W → Calls Tryz.prog 81 #[.agg #[.int .i64 n, .int .i64 f, .slice A cs.length ca, .slice B ds.length cb]] W (fun e w' => e = .returned (.int .i64 c) ∧ RowKit.Below W.heap.size W w') from fun W hW => by
  have := check_own n f A ca cs B cb ds W (Kd.C_below HC2.1 hW) hca (Kd.C_below HC3.1 hW) hcb
  rw [hc] at this
  exact this)
 clear hr2 hr3 hrm
 by_cases hc0 : c = 0
 ·subst hc0
  by_cases hcpu : cpu < 0 ∨ (cs.length : Int) ≤ cpu
  ·have HV := ak (show chV n f cs ds m s nd cpu cur may = (0, 0, 0, 11) from by unfold chV; rw [if_pos hc, if_pos hcpu])
   clear hc
   rw [HV.1]
   by_cases hn0 : cpu < 0
   ·have b1 : decide (cpu < 0) = true := decide_eq_true hn0
    clear hcpu
    go_enter Tryz.func52, Tryz.ntmps52
    go_wp2_with (go_at_call 81; (with_reducible refine (HCK.1 _ (below_alloc (below_alloc (below_alloc (RowKit.Below.refl w.heap.size w) _) _) _)).mono ?_); rintro e_ w1 ⟨rfl, hb⟩; have HX := ak ((((Blk.new w #[.int .i64 n, .int .i64 f, .slice A cs.length ca, .slice B ds.length cb] 37).alloc _).alloc _).below hb); have HP := ak (((Blk.new1 w _ #[.int .i64 m, .int .u8 s, .int .i64 nd] 40).alloc _).below hb); have HR := ak ((Blk.new2 w _ _ #[.int .i64 0, .int .i64 0, .int .i64 0] 103).below hb); have HB := ak (below_then (below_alloc (below_alloc (below_alloc (RowKit.Below.refl w.heap.size w) _) _) _) (below_alloc (below_alloc (below_alloc (RowKit.Below.refl w.heap.size w) _) _) _).size hb); clear hb; have c0 := HX.1.at 0 (.int .i64 n) rfl; have c1 := HX.1.at 1 (.int .i64 f) rfl; have c2 := HX.1.at 2 (.slice A cs.length ca) rfl; have c3 := HX.1.at 3 (.slice B ds.length cb) rfl; have p0 := HP.1.at 0 (.int .i64 m) rfl; have p1 := HP.1.at 1 (.int .u8 s) rfl; have p2 := HP.1.at 2 (.int .i64 nd) rfl; have r0 := HR.1.at 0 (.int .i64 0) rfl; have r1 := HR.1.at 1 (.int .i64 0) rfl; have r2 := HR.1.at 2 (.int .i64 0) rfl; have f0 := HR.1.fz 0; have f1 := HR.1.fz 1; have f2 := HR.1.fz 2)
    refine bodyPost_ret (results_ct rfl _ _ (w.heap.size + 1 + 1) 103 #[(.int .i64 0), (.int .i64 0), (.int .i64 0)] (0, 0) _ rfl (HR.1.put3 (.int .i64 0) (.int .i64 0) (.int .i64 0)) Tryz.underlying103 rfl (by kernel_rfl)) rfl ?_
    exact ⟨rfl, below_put3 HB.1 (by omega) _ _ _⟩
   ·have hn1 : (cs.length : Int) ≤ cpu := by omega
    have b1 : decide (cpu < 0) = false := decide_eq_false hn0
    have b2 : decide ((cs.length : Int) ≤ cpu) = true := decide_eq_true hn1
    clear hcpu
    go_enter Tryz.func52, Tryz.ntmps52
    go_wp2_with (go_at_call 81; (with_reducible refine (HCK.1 _ (below_alloc (below_alloc (below_alloc (RowKit.Below.refl w.heap.size w) _) _) _)).mono ?_); rintro e_ w1 ⟨rfl, hb⟩; have HX := ak ((((Blk.new w #[.int .i64 n, .int .i64 f, .slice A cs.length ca, .slice B ds.length cb] 37).alloc _).alloc _).below hb); have HP := ak (((Blk.new1 w _ #[.int .i64 m, .int .u8 s, .int .i64 nd] 40).alloc _).below hb); have HR := ak ((Blk.new2 w _ _ #[.int .i64 0, .int .i64 0, .int .i64 0] 103).below hb); have HB := ak (below_then (below_alloc (below_alloc (below_alloc (RowKit.Below.refl w.heap.size w) _) _) _) (below_alloc (below_alloc (below_alloc (RowKit.Below.refl w.heap.size w) _) _) _).size hb); clear hb; have c0 := HX.1.at 0 (.int .i64 n) rfl; have c1 := HX.1.at 1 (.int .i64 f) rfl; have c2 := HX.1.at 2 (.slice A cs.length ca) rfl; have c3 := HX.1.at 3 (.slice B ds.length cb) rfl; have p0 := HP.1.at 0 (.int .i64 m) rfl; have p1 := HP.1.at 1 (.int .u8 s) rfl; have p2 := HP.1.at 2 (.int .i64 nd) rfl; have r0 := HR.1.at 0 (.int .i64 0) rfl; have r1 := HR.1.at 1 (.int .i64 0) rfl; have r2 := HR.1.at 2 (.int .i64 0) rfl; have f0 := HR.1.fz 0; have f1 := HR.1.fz 1; have f2 := HR.1.fz 2)
    refine bodyPost_ret (results_ct rfl _ _ (w.heap.size + 1 + 1) 103 #[(.int .i64 0), (.int .i64 0), (.int .i64 0)] (0, 0) _ rfl (HR.1.put3 (.int .i64 0) (.int .i64 0) (.int .i64 0)) Tryz.underlying103 rfl (by kernel_rfl)) rfl ?_
    exact ⟨rfl, below_put3 HB.1 (by omega) _ _ _⟩
  ·obtain ⟨k, rfl, h1, h8, hdl, hrl, hfits⟩ := chk_zero hc
   obtain ⟨i, rfl⟩ : ∃ i : Nat, cpu = (i : Int) := ⟨cpu.toNat, by omega⟩
   have hi : i < cs.length := by omega
   have b1 : decide ((i : Int) < 0) = false := decide_eq_false (by omega)
   have b2 : decide (cs.length ≤ i) = false := decide_eq_false (by omega)
   have i0 : (0 : Int) ≤ (i : Int) := by omega
   have iI : (i : Int) < (cs.length : Int) := by omega
   obtain ⟨pe, hpe⟩ : ∃ pe, polR m s nd k = pe := ⟨_, rfl⟩
   by_cases hp0 : pe = 0
   ·subst hp0
    obtain ⟨own, hown⟩ : ∃ own, rd cs (i : Int) = own := ⟨_, rfl⟩
    obtain ⟨oi, o2⟩ : 0 ≤ own ∧ own < k := by
     rw [← hown]
     unfold rd
     rw [Int.toNat_natCast, List.getD_eq_getElem?_getD, List.getElem?_eq_getElem hi]
     exact chk_cpus hc _ (List.getElem_mem hi)
    obtain ⟨st, hst⟩ : ∃ st, startR m s nd own cur = st := ⟨_, rfl⟩
    obtain ⟨x, y⟩ := st
    obtain ⟨x0, xk⟩ := start_in m s hs nd k h1 h8 own cur oi o2 hpe
    rw [hst] at x0 xk
    simp only at x0 xk
    obtain ⟨a, rfl⟩ : ∃ a : Nat, x = (a : Int) := ⟨x.toNat, by omega⟩
    have he0 : erN (k : Int) f cs ds (a : Int) = 0 := by unfold erN; rw [if_pos hc, if_neg (by omega)]
    obtain ⟨o, ho⟩ : ∃ o, nearR may (inL (permR m s k) (ordL ds a k)) = o := ⟨_, rfl⟩
    have HV := ak (show chV (k : Int) f cs ds m s nd (i : Int) cur may = (o.getD 0, (a : Int), y, if o.isSome = true then 0 else 5) from by
     unfold chV
     rw [if_pos hc, if_neg hcpu, if_pos hpe, hown, hst, Int.toNat_natCast, Int.toNat_natCast, ho])
    have HPE := ak (show ∀ W : World, Calls Tryz.prog 49 #[.agg #[.int .i64 m, .int .u8 s, .int .i64 nd], .int .i64 k] W (fun e w' => e = .returned (.tuple #[.int .u8 (permR m s k), .int .i64 0]) ∧ RowKit.Below W.heap.size W w') from fun W => policy_Permitted.calls 20 m s nd k (permR m s k) 0 W (by rw [pperm_f m s nd k h1 h8, hpe, if_pos rfl]))
    have HST := ak (show ∀ W : World, Calls Tryz.prog 110 #[.agg #[.int .i64 m, .int .u8 s, .int .i64 nd], .int .i64 k, .int .i64 own, .int .i64 cur] W (fun e w' => e = .returned (.tuple #[.int .i64 a, .int .i64 y, .int .i64 0]) ∧ RowKit.Below W.heap.size W w') from fun W => policy_Start.calls 20 m s nd k own cur a y 0 W (by rw [pstart_f m s hs nd k h1 h8 own cur oi o2 hpe, hst]))
    have HNE := ak (show ∀ W : World, RowKit.Below w.heap.size w W → Calls Tryz.prog 111 #[.agg #[.int .i64 k, .int .i64 f, .slice A cs.length ca, .slice B ds.length cb], .int .i64 a, .int .u8 (permR m s k), .slice M may.length cm] W (fun e w' => e = .returned (.tuple #[.int .i64 (o.getD 0), .bool o.isSome]) ∧ RowKit.Below W.heap.size W w') from fun W hW => by
     have := nearest_own k f A ca cs B cb ds a (permR m s k) M cm may W (Kd.C_below HC2.1 hW) hca (Kd.C_below HC3.1 hW) hcb (Kd.C_below HCM.1 hW)
     rw [show lstN (k : Int) f cs ds (a : Int) = ordL ds a k from by unfold lstN; rw [if_pos he0, Int.toNat_natCast, Int.toNat_natCast], ho] at this
     exact this)
    have HOW := ak hown
    rw [HV.1]
    obtain ⟨pm, hpm⟩ : ∃ pm, permR m s k = pm := ⟨_, rfl⟩
    rw [hpm] at HPE HNE
    clear hc hcpu hdl hrl hfits hpe hown hst he0 ho HV hpm oi o2 x0 xk
    go_enter Tryz.func52, Tryz.ntmps52
    go_upto_region 9 with (first | (go_at_call 81; (with_reducible refine (HCK.1 _ (below_alloc (below_alloc (below_alloc (RowKit.Below.refl w.heap.size w) _) _) _)).mono ?_); rintro e_ w1 ⟨rfl, hb⟩; have HX := ak ((((Blk.new w #[.int .i64 k, .int .i64 f, .slice A cs.length ca, .slice B ds.length cb] 37).alloc _).alloc _).below hb); have HP := ak (((Blk.new1 w _ #[.int .i64 m, .int .u8 s, .int .i64 nd] 40).alloc _).below hb); have HR := ak ((Blk.new2 w _ _ #[.int .i64 0, .int .i64 0, .int .i64 0] 103).below hb); have HB := ak (below_then (below_alloc (below_alloc (below_alloc (RowKit.Below.refl w.heap.size w) _) _) _) (below_alloc (below_alloc (below_alloc (RowKit.Below.refl w.heap.size w) _) _) _).size hb); clear hb; have c0 := HX.1.at 0 (.int .i64 k) rfl; have c1 := HX.1.at 1 (.int .i64 f) rfl; have c2 := HX.1.at 2 (.slice A cs.length ca) rfl; have c3 := HX.1.at 3 (.slice B ds.length cb) rfl; have p0 := HP.1.at 0 (.int .i64 m) rfl; have p1 := HP.1.at 1 (.int .u8 s) rfl; have p2 := HP.1.at 2 (.int .i64 nd) rfl; have r0 := HR.1.at 0 (.int .i64 0) rfl; have r1 := HR.1.at 1 (.int .i64 0) rfl; have r2 := HR.1.at 2 (.int .i64 0) rfl; have f0 := HR.1.fz 0; have f1 := HR.1.fz 1; have f2 := HR.1.fz 2) | (go_at_call 49; (with_reducible refine (HPE.1 _).mono ?_); rintro e_ w2 ⟨rfl, hb⟩; have n0_ := ak (below_then HB.1 HB.1.size hb); have n1_ := ak (HX.1.below hb); have n2_ := ak (HP.1.below hb); have n3_ := ak (HR.1.below hb); clear HB HX HP HR c0 c1 c2 c3 p0 p1 p2 r0 r1 r2 f0 f1 f2 hb; have HB := n0_; have HX := n1_; have HP := n2_; have HR := n3_; clear n0_ n1_ n2_ n3_; have c0 := HX.1.at 0 (.int .i64 k) rfl; have c1 := HX.1.at 1 (.int .i64 f) rfl; have c2 := HX.1.at 2 (.slice A cs.length ca) rfl; have c3 := HX.1.at 3 (.slice B ds.length cb) rfl; have p0 := HP.1.at 0 (.int .i64 m) rfl; have p1 := HP.1.at 1 (.int .u8 s) rfl; have p2 := HP.1.at 2 (.int .i64 nd) rfl; have r0 := HR.1.at 0 (.int .i64 0) rfl; have r1 := HR.1.at 1 (.int .i64 0) rfl; have r2 := HR.1.at 2 (.int .i64 0) rfl; have f0 := HR.1.fz 0; have f1 := HR.1.fz 1; have f2 := HR.1.fz 2))
    obtain ⟨ad, rfl, q0⟩ := Kd.at_int (Kd.C_below HC2.1 HB.1) (i : Int) i0 iI
    rw [Int.toNat_natCast, HOW.1] at q0
    refine st_ 17 (fun w' => w'.cell? ⟨w.heap.size, 0, none⟩ = some (.int .i64 k) ∧ w'.cell? ⟨w.heap.size, 2, none⟩ = some (.slice (some ad) cs.length ca) ∧ w'.cell? ⟨w.heap.size + 1, 0, none⟩ = some (.int .i64 m) ∧ w'.cell? ⟨w.heap.size + 1, 1, none⟩ = some (.int .u8 s) ∧ w'.cell? ⟨w.heap.size + 1, 2, none⟩ = some (.int .i64 nd) ∧ w'.cell? (ad.add i) = some (.int .i64 own)) [9] ⟨c0, c2, p0, p1, p2, q0⟩ (fun hHeld => ?_)
    have hd_ := below_drew (RowKit.Below.refl w2.heap.size w2)
    have n0_ := ak (below_then HB.1 HB.1.size hd_)
    have n1_ := ak (HX.1.below hd_)
    have n2_ := ak (HP.1.below hd_)
    have n3_ := ak (HR.1.below hd_)
    clear HB HX HP HR c0 c1 c2 c3 p0 p1 p2 r0 r1 r2 f0 f1 f2 hd_
    have HB := n0_
    have HX := n1_
    have HP := n2_
    have HR := n3_
    clear n0_ n1_ n2_ n3_
    have c0 := HX.1.at 0 (.int .i64 k) rfl
    have c1 := HX.1.at 1 (.int .i64 f) rfl
    have c2 := HX.1.at 2 (.slice (some ad) cs.length ca) rfl
    have c3 := HX.1.at 3 (.slice B ds.length cb) rfl
    have p0 := HP.1.at 0 (.int .i64 m) rfl
    have p1 := HP.1.at 1 (.int .u8 s) rfl
    have p2 := HP.1.at 2 (.int .i64 nd) rfl
    have r0 := HR.1.at 0 (.int .i64 0) rfl
    have r1 := HR.1.at 1 (.int .i64 0) rfl
    have r2 := HR.1.at 2 (.int .i64 0) rfl
    have f0 := HR.1.fz 0
    have f1 := HR.1.fz 1
    have f2 := HR.1.fz 2
    clear q0
    generalize w2.drew = wd at *
    refine pu_ 1 48 2 ?_
    refine pu_ 3 50 10 ?_
    refine pu_ 5 52 42 ?_
    refine pu_ 8 55 298 ?_
    refine ta_ 0 47 299 hHeld ?_
    refine ta_ 2 49 303 hHeld ?_
    refine ta_ 4 51 319 hHeld ?_
    refine pu_ 6 53 383 ?_
    refine ta_ 7 54 511 hHeld ?_
    refine last_ (i := 9) (N := some 56) (bz 17 1023) rfl rfl (by kernel_rfl) (by decide) (fun K hK => ?_)
    refine goes_ Tryz.func110 (by kernel_rfl) rfl #[.agg #[.int .i64 m, .int .u8 s, .int .i64 nd], .int .i64 k, .int .i64 own, .int .i64 cur] (by rfl) rfl rfl (by simp only [List.map_toArray, List.map_cons, List.map_nil]; rfl) ?_
    with_reducible refine (HST.1 _).mono ?_
    rintro e_ w3 ⟨rfl, hb⟩
    refine ⟨_, rfl, ?_⟩
    have n0_ := ak (below_then HB.1 HB.1.size hb)
    have n1_ := ak (HX.1.below hb)
    have n2_ := ak (HP.1.below hb)
    have n3_ := ak (HR.1.below hb)
    clear HB HX HP HR c0 c1 c2 c3 p0 p1 p2 r0 r1 r2 f0 f1 f2 hb
    have HB := n0_
    have HX := n1_
    have HP := n2_
    have HR := n3_
    clear n0_ n1_ n2_ n3_
    have c0 := HX.1.at 0 (.int .i64 k) rfl
    have c1 := HX.1.at 1 (.int .i64 f) rfl
    have c2 := HX.1.at 2 (.slice (some ad) cs.length ca) rfl
    have c3 := HX.1.at 3 (.slice B ds.length cb) rfl
    have p0 := HP.1.at 0 (.int .i64 m) rfl
    have p1 := HP.1.at 1 (.int .u8 s) rfl
    have p2 := HP.1.at 2 (.int .i64 nd) rfl
    have r0 := HR.1.at 0 (.int .i64 0) rfl
    have r1 := HR.1.at 1 (.int .i64 0) rfl
    have r2 := HR.1.at 2 (.int .i64 0) rfl
    have f0 := HR.1.fz 0
    have f1 := HR.1.fz 1
    have f2 := HR.1.fz 2
    refine hK.out _ _ ?_
    clear hK K
    refine no_ 56 ?_
    refine pu_ 10 46 2047 ?_
    refine pu_ 11 57 4095 ?_
    refine pu_ 12 58 8191 ?_
    refine pu_ 13 59 16383 ?_
    refine pu_ 14 15 32767 ?_
    refine pu_ 15 16 65535 ?_
    refine pu_ 16 14 131071 ?_
    refine done_ (by kernel_rfl) ?_
    cases o with
    | none =>
     go_wp2_with (go_at_call 111; (with_reducible refine (HNE.1 _ HB.1).mono ?_); rintro e_ w4 ⟨rfl, hb⟩; have n0_ := ak (below_then HB.1 HB.1.size hb); have n1_ := ak (HX.1.below hb); have n2_ := ak (HP.1.below hb); have n3_ := ak (HR.1.below hb); clear HB HX HP HR c0 c1 c2 c3 p0 p1 p2 r0 r1 r2 f0 f1 f2 hb; have HB := n0_; have HX := n1_; have HP := n2_; have HR := n3_; clear n0_ n1_ n2_ n3_; have c0 := HX.1.at 0 (.int .i64 k) rfl; have c1 := HX.1.at 1 (.int .i64 f) rfl; have c2 := HX.1.at 2 (.slice (some ad) cs.length ca) rfl; have c3 := HX.1.at 3 (.slice B ds.length cb) rfl; have p0 := HP.1.at 0 (.int .i64 m) rfl; have p1 := HP.1.at 1 (.int .u8 s) rfl; have p2 := HP.1.at 2 (.int .i64 nd) rfl; have r0 := HR.1.at 0 (.int .i64 0) rfl; have r1 := HR.1.at 1 (.int .i64 0) rfl; have r2 := HR.1.at 2 (.int .i64 0) rfl; have f0 := HR.1.fz 0; have f1 := HR.1.fz 1; have f2 := HR.1.fz 2)
     refine bodyPost_ret (results_ct rfl _ _ (w.heap.size + 1 + 1) 103 #[(.int .i64 0), (.int .i64 a), (.int .i64 y)] (0, 0) _ rfl (HR.1.put3 (.int .i64 0) (.int .i64 a) (.int .i64 y)) Tryz.underlying103 rfl (by kernel_rfl)) rfl ?_
     exact ⟨rfl, below_put3 HB.1 (by omega) _ _ _⟩
    | some x =>
     go_wp2_with (go_at_call 111; (with_reducible refine (HNE.1 _ HB.1).mono ?_); rintro e_ w4 ⟨rfl, hb⟩; have n0_ := ak (below_then HB.1 HB.1.size hb); have n1_ := ak (HX.1.below hb); have n2_ := ak (HP.1.below hb); have n3_ := ak (HR.1.below hb); clear HB HX HP HR c0 c1 c2 c3 p0 p1 p2 r0 r1 r2 f0 f1 f2 hb; have HB := n0_; have HX := n1_; have HP := n2_; have HR := n3_; clear n0_ n1_ n2_ n3_; have c0 := HX.1.at 0 (.int .i64 k) rfl; have c1 := HX.1.at 1 (.int .i64 f) rfl; have c2 := HX.1.at 2 (.slice (some ad) cs.length ca) rfl; have c3 := HX.1.at 3 (.slice B ds.length cb) rfl; have p0 := HP.1.at 0 (.int .i64 m) rfl; have p1 := HP.1.at 1 (.int .u8 s) rfl; have p2 := HP.1.at 2 (.int .i64 nd) rfl; have r0 := HR.1.at 0 (.int .i64 0) rfl; have r1 := HR.1.at 1 (.int .i64 0) rfl; have r2 := HR.1.at 2 (.int .i64 0) rfl; have f0 := HR.1.fz 0; have f1 := HR.1.fz 1; have f2 := HR.1.fz 2)
     refine bodyPost_ret (results_ct rfl _ _ (w.heap.size + 1 + 1) 103 #[(.int .i64 x), (.int .i64 a), (.int .i64 y)] (0, 0) _ rfl (HR.1.put3 (.int .i64 x) (.int .i64 a) (.int .i64 y)) Tryz.underlying103 rfl (by kernel_rfl)) rfl ?_
     exact ⟨rfl, below_put3 HB.1 (by omega) _ _ _⟩
   ·have HV := ak (show chV (k : Int) f cs ds m s nd (i : Int) cur may = (0, 0, 0, pe) from by unfold chV; rw [if_pos hc, if_neg hcpu, if_neg (by rw [hpe]; exact hp0), hpe])
    have HPE := ak (show ∀ W : World, Calls Tryz.prog 49 #[.agg #[.int .i64 m, .int .u8 s, .int .i64 nd], .int .i64 k] W (fun e w' => e = .returned (.tuple #[.int .u8 0, .int .i64 pe]) ∧ RowKit.Below W.heap.size W w') from fun W => policy_Permitted.calls 20 m s nd k 0 pe W (by rw [pperm_f m s nd k h1 h8, hpe, if_neg hp0]))
    have b3 : (pe == 0) = false := by simpa using hp0
    have b4 : (pe != 0) = true := by simpa using hp0
    rw [HV.1]
    clear hc hcpu hdl hrl hfits hpe
    go_enter Tryz.func52, Tryz.ntmps52
    go_wp2_with (first | (go_at_call 81; (with_reducible refine (HCK.1 _ (below_alloc (below_alloc (below_alloc (RowKit.Below.refl w.heap.size w) _) _) _)).mono ?_); rintro e_ w1 ⟨rfl, hb⟩; have HX := ak ((((Blk.new w #[.int .i64 k, .int .i64 f, .slice A cs.length ca, .slice B ds.length cb] 37).alloc _).alloc _).below hb); have HP := ak (((Blk.new1 w _ #[.int .i64 m, .int .u8 s, .int .i64 nd] 40).alloc _).below hb); have HR := ak ((Blk.new2 w _ _ #[.int .i64 0, .int .i64 0, .int .i64 0] 103).below hb); have HB := ak (below_then (below_alloc (below_alloc (below_alloc (RowKit.Below.refl w.heap.size w) _) _) _) (below_alloc (below_alloc (below_alloc (RowKit.Below.refl w.heap.size w) _) _) _).size hb); clear hb; have c0 := HX.1.at 0 (.int .i64 k) rfl; have c1 := HX.1.at 1 (.int .i64 f) rfl; have c2 := HX.1.at 2 (.slice A cs.length ca) rfl; have c3 := HX.1.at 3 (.slice B ds.length cb) rfl; have p0 := HP.1.at 0 (.int .i64 m) rfl; have p1 := HP.1.at 1 (.int .u8 s) rfl; have p2 := HP.1.at 2 (.int .i64 nd) rfl; have r0 := HR.1.at 0 (.int .i64 0) rfl; have r1 := HR.1.at 1 (.int .i64 0) rfl; have r2 := HR.1.at 2 (.int .i64 0) rfl; have f0 := HR.1.fz 0; have f1 := HR.1.fz 1; have f2 := HR.1.fz 2) | (go_at_call 49; (with_reducible refine (HPE.1 _).mono ?_); rintro e_ w2 ⟨rfl, hb⟩; have n0_ := ak (below_then HB.1 HB.1.size hb); have n1_ := ak (HX.1.below hb); have n2_ := ak (HP.1.below hb); have n3_ := ak (HR.1.below hb); clear HB HX HP HR c0 c1 c2 c3 p0 p1 p2 r0 r1 r2 f0 f1 f2 hb; have HB := n0_; have HX := n1_; have HP := n2_; have HR := n3_; clear n0_ n1_ n2_ n3_; have c0 := HX.1.at 0 (.int .i64 k) rfl; have c1 := HX.1.at 1 (.int .i64 f) rfl; have c2 := HX.1.at 2 (.slice A cs.length ca) rfl; have c3 := HX.1.at 3 (.slice B ds.length cb) rfl; have p0 := HP.1.at 0 (.int .i64 m) rfl; have p1 := HP.1.at 1 (.int .u8 s) rfl; have p2 := HP.1.at 2 (.int .i64 nd) rfl; have r0 := HR.1.at 0 (.int .i64 0) rfl; have r1 := HR.1.at 1 (.int .i64 0) rfl; have r2 := HR.1.at 2 (.int .i64 0) rfl; have f0 := HR.1.fz 0; have f1 := HR.1.fz 1; have f2 := HR.1.fz 2))
    refine bodyPost_ret (results_ct rfl _ _ (w.heap.size + 1 + 1) 103 #[(.int .i64 0), (.int .i64 0), (.int .i64 0)] (0, 0) _ rfl (HR.1.put3 (.int .i64 0) (.int .i64 0) (.int .i64 0)) Tryz.underlying103 rfl (by kernel_rfl)) rfl ?_
    exact ⟨rfl, below_put3 HB.1 (by omega) _ _ _⟩
 ·have HV := ak (show chV n f cs ds m s nd cpu cur may = (0, 0, 0, c) from by unfold chV; rw [if_neg (by rw [hc]; exact hc0), hc])
  have b1 : (c == 0) = false := by simpa using hc0
  have b2 : (c != 0) = true := by simpa using hc0
  clear hc
  rw [HV.1]
  go_enter Tryz.func52, Tryz.ntmps52
  go_wp2_with (go_at_call 81; (with_reducible refine (HCK.1 _ (below_alloc (below_alloc (below_alloc (RowKit.Below.refl w.heap.size w) _) _) _)).mono ?_); rintro e_ w1 ⟨rfl, hb⟩; have HX := ak ((((Blk.new w #[.int .i64 n, .int .i64 f, .slice A cs.length ca, .slice B ds.length cb] 37).alloc _).alloc _).below hb); have HP := ak (((Blk.new1 w _ #[.int .i64 m, .int .u8 s, .int .i64 nd] 40).alloc _).below hb); have HR := ak ((Blk.new2 w _ _ #[.int .i64 0, .int .i64 0, .int .i64 0] 103).below hb); have HB := ak (below_then (below_alloc (below_alloc (below_alloc (RowKit.Below.refl w.heap.size w) _) _) _) (below_alloc (below_alloc (below_alloc (RowKit.Below.refl w.heap.size w) _) _) _).size hb); clear hb; have c0 := HX.1.at 0 (.int .i64 n) rfl; have c1 := HX.1.at 1 (.int .i64 f) rfl; have c2 := HX.1.at 2 (.slice A cs.length ca) rfl; have c3 := HX.1.at 3 (.slice B ds.length cb) rfl; have p0 := HP.1.at 0 (.int .i64 m) rfl; have p1 := HP.1.at 1 (.int .u8 s) rfl; have p2 := HP.1.at 2 (.int .i64 nd) rfl; have r0 := HR.1.at 0 (.int .i64 0) rfl; have r1 := HR.1.at 1 (.int .i64 0) rfl; have r2 := HR.1.at 2 (.int .i64 0) rfl; have f0 := HR.1.fz 0; have f1 := HR.1.fz 1; have f2 := HR.1.fz 2)
  refine bodyPost_ret (results_ct rfl _ _ (w.heap.size + 1 + 1) 103 #[(.int .i64 0), (.int .i64 0), (.int .i64 0)] (0, 0) _ rfl (HR.1.put3 (.int .i64 0) (.int .i64 0) (.int .i64 0)) Tryz.underlying103 rfl (by kernel_rfl)) rfl ?_
  exact ⟨rfl, below_put3 HB.1 (by omega) _ _ _⟩
end Go.Proofs.YtenkdmloolbdaaaGreatDoor.TZ
end
