/- No span is near where there is none. Small objects. Small objects of a new span. -/
import Derived.Test.YtenkdmloolbdaaaGreatDoorV37
import Derived.Maps.RangeWalk
import Derived.Test.YtenkdmloolbdaaaGreatDoorV38
section
namespace Go.Proofs.YtenkdmloolbdaaaGreatDoor.T
open Go.RowKit Go.Maps Go.WideShapes Go.Proofs.YtenkdmloolbdaaaGreatDoorW.PrintWords Go.Proofs.YtenkdmloolbdaaaGreatDoorW.PrintLast Go.Proofs.YtenkdmloolbdaaaGreatDoorW.PrintMore
set_option linter.unusedVariables false
set_option linter.unusedSimpArgs false
theorem ptr_shape {v : Value} {y : DataW Unit × List MemPlace} (h : ptrElem v = some y) : ∃ o : Option Nat, v = ptrV o := by
  unfold ptrElem at h
  split at h
  · exact ⟨none, rfl⟩
  · rename_i b; exact ⟨some b, rfl⟩
  · simp at h
def RelNr (κ : Kol) (m : Nat) (a : Ad) (s : St) (w wr0 : World) (it : Nat) (n : Nat) (D : DataW Unit) (v10 : Value) (wr : World) : Prop :=
  ∃ left cnt, v10 = .pointer none ∧ wr.ranges Tryz.prog 3 ptrElem a.sb it n D left cnt ∧ (∀ kl, left kl = true → Maps.has D kl = true) ∧ RowKit.Below w.heap.size w wr
set_option maxHeartbeats 4000000 in
set_option maxRecDepth 100000 in
theorem nearest_none (κ : Kol) (m : Nat) (a : Ad) (s : St) (j p : Nat) (c : Cpu) (cls : Nat) (hp : a.cps[j]? = some p) (hc : s.cpus[j]? = some c) (h1 : 1 ≤ s.n) (h8 : s.n ≤ 8) (hpol : TZ.polR c.mode c.set c.nd s.n = 0) (her : TZ.erN s.n s.f s.cs s.ds c.node = 0) (hno : ∀ q, s.sp q = none) (w : World) (h : MachK κ w m a s) :
    Calls Tryz.prog 168 #[.pointer (some ⟨m, 0, none⟩), .pointer (some ⟨p, 0, none⟩), .int .i64 cls] w fun e w' => e = .returned (.pointer none) ∧ RowKit.Below w.heap.size w w' := by
  have HM := Aside0.mk h
  have HC := Aside0.mk (show ∀ W, MachK κ W m a s → CpuK κ (150 + 6 * j) W p c from fun W hW => hW.cpuK hp hc)
  obtain ⟨pm, hpm⟩ : ∃ pm, TZ.permR c.mode c.set s.n = pm := ⟨_, rfl⟩
  have HPE := Aside0.mk (show ∀ W : World, Calls Tryz.prog 49 #[.agg #[.int .i64 c.mode, .int .u8 c.set, .int .i64 c.nd], .int .i64 s.n] W (fun e w' => e = .returned (.tuple #[.int .u8 pm, .int .i64 0]) ∧ RowKit.Below W.heap.size W w') from fun W => by
    rw [← hpm]
    exact PH.policy_Permitted.calls 20 c.mode c.set c.nd s.n _ 0 W (by rw [TZ.pperm_f c.mode c.set c.nd s.n h1 h8, hpol, if_pos rfl]))
  obtain ⟨q, hq⟩ : ∃ q, (TZ.inL pm (TZ.lstN s.n s.f s.cs s.ds c.node)).length = q := ⟨_, rfl⟩
  have HWI := Aside0.mk (show ∀ W, MachK κ W m a s → Calls Tryz.prog 162 #[.agg #[.int .i64 s.n, .int .i64 s.f, .slice a.A s.cs.length a.ca, .slice a.B s.ds.length a.cb], .int .i64 c.node, .int .u8 pm] W (fun e w' => ∃ A1 c1, e = .returned (.tuple #[.slice A1 q c1, .int .i64 0]) ∧ RowKit.Below W.heap.size W w') from fun W hW => by
    obtain ⟨A1, c1, e1, l1, r1⟩ := hW.cs.reads
    injection e1 with e1 _ e2
    obtain ⟨A2, c2, e3, l2, r2⟩ := hW.ds.reads
    injection e3 with e3 _ e4
    subst e1; subst e2; subst e3; subst e4
    refine (TZ.within_own s.n s.f a.A a.ca s.cs a.B a.cb s.ds c.node pm W r1 l1 r2 l2).mono ?_
    rintro e w' ⟨v, rfl, ho, hb⟩
    obtain ⟨A3, c3, rfl⟩ := own_slice ho
    rw [hq, her]
    exact ⟨A3, c3, rfl, hb⟩)
  have HB0 := Aside0.mk (RowKit.Below.refl w.heap.size w)
  have c0 := h.c0
  have k1 := (HC.out _ h).k1
  have k2 := (HC.out _ h).k2
  have k3 := (HC.out _ h).k3
  have HNO := Aside0.mk hno
  clear h hpm hq hpol her hno hp hc
  go_enter Tryz.func168, Tryz.ntmps168
  go_upto_region 1 with fail
  refine start_ (n := 15) (S := fun w' => w'.cell? ⟨m, 0, none⟩ = some (.int .i64 s.n) ∧ w'.cell? ⟨p, 1, none⟩ = some (.int .i64 c.mode) ∧ w'.cell? ⟨p, 2, none⟩ = some (.int .u8 c.set) ∧ w'.cell? ⟨p, 3, none⟩ = some (.int .i64 c.nd)) (ds := [9]) #[false, false, false, false, false, false, false, false, false, false, false, false, false, false, false] (by kernel_rfl) rfl rfl ⟨c0, k1, k2, k3⟩ (fun hHeld => ?_)
  have hd_ := below_drew (RowKit.Below.refl w.heap.size w)
  have n0_ := Aside0.mk (HM.out.below hd_)
  have n1_ := Aside0.mk (below_then HB0.out HB0.out.size hd_)
  clear HM HB0 c0 k1 k2 k3 hd_
  have HM := n0_
  have HB0 := n1_
  clear n0_ n1_
  have c0 := HM.out.c0
  have k1 := (HC.out _ HM.out).k1
  have k2 := (HC.out _ HM.out).k2
  have k3 := (HC.out _ HM.out).k3
  generalize w.drew = wd at *
  refine pure_ (i := 0) (N := some 16) (v := ?_) (a' := ?_) #[true, false, false, false, false, false, false, false, false, false, false, false, false, false, false] rfl rfl (by kernel_rfl) (fun _ _ _ h => h) (Or.inl ⟨by rfl, ?_⟩) ?_ ?_
  rotate_left
  · intro w'
    go_simp
    with_reducible rfl
  rotate_left
  · simp only [Act.put, List.setIfInBounds_toArray, List.set_cons_zero, List.set_cons_succ, i64_w, i32_w]
    rfl
  refine pure_ (i := 1) (N := some 17) (v := ?_) (a' := ?_) #[true, true, false, false, false, false, false, false, false, false, false, false, false, false, false] rfl rfl (by kernel_rfl) (fun _ _ _ h => h) (Or.inl ⟨by rfl, ?_⟩) ?_ ?_
  rotate_left
  · intro w'
    go_simp
    with_reducible rfl
  rotate_left
  · simp only [Act.put, List.setIfInBounds_toArray, List.set_cons_zero, List.set_cons_succ, i64_w, i32_w]
    rfl
  refine pure_ (i := 2) (N := some 18) (v := ?_) (a' := ?_) #[true, true, true, false, false, false, false, false, false, false, false, false, false, false, false] rfl rfl (by kernel_rfl) (fun _ _ _ h => h) (Or.inl ⟨by rfl, ?_⟩) ?_ ?_
  rotate_left
  · intro w'
    go_simp
    with_reducible rfl
  rotate_left
  · simp only [Act.put, List.setIfInBounds_toArray, List.set_cons_zero, List.set_cons_succ, i64_w, i32_w]
    rfl
  refine pure_ (i := 4) (N := some 20) (v := ?_) (a' := ?_) #[true, true, true, false, true, false, false, false, false, false, false, false, false, false, false] rfl rfl (by kernel_rfl) (fun _ _ _ h => h) (Or.inl ⟨by rfl, ?_⟩) ?_ ?_
  rotate_left
  · intro w'
    go_simp
    with_reducible rfl
  rotate_left
  · simp only [Act.put, List.setIfInBounds_toArray, List.set_cons_zero, List.set_cons_succ, i64_w, i32_w]
    rfl
  refine pure_ (i := 5) (N := some 21) (v := ?_) (a' := ?_) #[true, true, true, false, true, true, false, false, false, false, false, false, false, false, false] rfl rfl (by kernel_rfl) (fun _ _ _ h => h) (Or.inl ⟨by rfl, ?_⟩) ?_ ?_
  rotate_left
  · intro w'
    go_simp
    with_reducible rfl
  rotate_left
  · simp only [Act.put, List.setIfInBounds_toArray, List.set_cons_zero, List.set_cons_succ, i64_w, i32_w]
    rfl
  refine pure_ (i := 6) (N := some 22) (v := ?_) (a' := ?_) #[true, true, true, false, true, true, true, false, false, false, false, false, false, false, false] rfl rfl (by kernel_rfl) (fun _ _ _ h => h) (Or.inl ⟨by rfl, ?_⟩) ?_ ?_
  rotate_left
  · intro w'
    go_simp
    with_reducible rfl
  rotate_left
  · simp only [Act.put, List.setIfInBounds_toArray, List.set_cons_zero, List.set_cons_succ, i64_w, i32_w]
    rfl
  refine pure_ (i := 7) (N := some 23) (v := ?_) (a' := ?_) #[true, true, true, false, true, true, true, true, false, false, false, false, false, false, false] rfl rfl (by kernel_rfl) (fun _ _ _ h => h) (Or.inl ⟨by rfl, ?_⟩) ?_ ?_
  rotate_left
  · intro w'
    go_simp
    with_reducible rfl
  rotate_left
  · simp only [Act.put, List.setIfInBounds_toArray, List.set_cons_zero, List.set_cons_succ, i64_w, i32_w]
    rfl
  refine take_ (i := 3) (N := some 19) (v := ?_) (a' := ?_) #[true, true, true, true, true, true, true, true, false, false, false, false, false, false, false] rfl rfl (by kernel_rfl) (fun _ _ _ h => h) (Or.inl ⟨by rfl, ?_⟩) hHeld ?_ ?_
  rotate_left
  · rintro w' ⟨s0, s1, s2, s3⟩
    go_simp
    with_reducible rfl
  rotate_left
  · simp only [Act.put, List.setIfInBounds_toArray, List.set_cons_zero, List.set_cons_succ, i64_w, i32_w]
    rfl
  refine take_ (i := 8) (N := some 24) (v := ?_) (a' := ?_) #[true, true, true, true, true, true, true, true, true, false, false, false, false, false, false] rfl rfl (by kernel_rfl) (fun _ _ _ h => h) (Or.inl ⟨by rfl, ?_⟩) hHeld ?_ ?_
  rotate_left
  · rintro w' ⟨s0, s1, s2, s3⟩
    go_simp
    with_reducible rfl
  rotate_left
  · simp only [Act.put, List.setIfInBounds_toArray, List.set_cons_zero, List.set_cons_succ, i64_w, i32_w]
    rfl
  refine last_ (i := 9) (N := some 25) #[true, true, true, true, true, true, true, true, true, true, false, false, false, false, false] rfl rfl (by kernel_rfl) (by decide) (fun K hK => ?_)
  refine goes_ Tryz.func49 (by kernel_rfl) rfl #[.agg #[.int .i64 c.mode, .int .u8 c.set, .int .i64 c.nd], .int .i64 s.n] (by rfl) rfl rfl (by simp only [List.map_toArray, List.map_cons, List.map_nil]; rfl) ?_
  with_reducible refine (HPE.out _).mono ?_
  rintro e_ w1 ⟨rfl, hb⟩
  refine ⟨_, rfl, ?_⟩
  have n0_ := Aside0.mk (HM.out.below hb)
  have n1_ := Aside0.mk (below_then HB0.out HB0.out.size hb)
  clear HM HB0 c0 k1 k2 k3 hb
  have HM := n0_
  have HB0 := n1_
  clear n0_ n1_
  have c0 := HM.out.c0
  have k1 := (HC.out _ HM.out).k1
  have k2 := (HC.out _ HM.out).k2
  have k3 := (HC.out _ HM.out).k3
  clear hHeld
  clear c0 k1 k2 k3
  refine hK.out _ _ ?_
  clear hK K
  refine norm_ (a' := ?_) ?_ ?_
  rotate_left
  · show Act.put _ (some 25) _ = _
    simp only [Act.put, List.setIfInBounds_toArray, List.set_cons_zero, List.set_cons_succ, i64_w, i32_w]
    rfl
  refine pure_ (i := 10) (N := some 15) (v := ?_) (a' := ?_) #[true, true, true, true, true, true, true, true, true, true, true, false, false, false, false] rfl rfl (by kernel_rfl) (fun _ _ _ h => h) (Or.inl ⟨by rfl, ?_⟩) ?_ ?_
  rotate_left
  · intro w'
    go_simp
    with_reducible rfl
  rotate_left
  · simp only [Act.put, List.setIfInBounds_toArray, List.set_cons_zero, List.set_cons_succ, i64_w, i32_w]
    rfl
  refine pure_ (i := 11) (N := some 26) (v := ?_) (a' := ?_) #[true, true, true, true, true, true, true, true, true, true, true, true, false, false, false] rfl rfl (by kernel_rfl) (fun _ _ _ h => h) (Or.inl ⟨by rfl, ?_⟩) ?_ ?_
  rotate_left
  · intro w'
    go_simp
    with_reducible rfl
  rotate_left
  · simp only [Act.put, List.setIfInBounds_toArray, List.set_cons_zero, List.set_cons_succ, i64_w, i32_w]
    rfl
  refine pure_ (i := 12) (N := some 27) (v := ?_) (a' := ?_) #[true, true, true, true, true, true, true, true, true, true, true, true, true, false, false] rfl rfl (by kernel_rfl) (fun _ _ _ h => h) (Or.inl ⟨by rfl, ?_⟩) ?_ ?_
  rotate_left
  · intro w'
    go_simp
    with_reducible rfl
  rotate_left
  · simp only [Act.put, List.setIfInBounds_toArray, List.set_cons_zero, List.set_cons_succ, i64_w, i32_w]
    rfl
  refine pure_ (i := 13) (N := some 7) (v := ?_) (a' := ?_) #[true, true, true, true, true, true, true, true, true, true, true, true, true, true, false] rfl rfl (by kernel_rfl) (fun _ _ _ h => h) (Or.inl ⟨by rfl, ?_⟩) ?_ ?_
  rotate_left
  · intro w'
    go_simp
    with_reducible rfl
  rotate_left
  · simp only [Act.put, List.setIfInBounds_toArray, List.set_cons_zero, List.set_cons_succ, i64_w, i32_w]
    rfl
  refine pure_ (i := 14) (N := some 8) (v := ?_) (a' := ?_) #[true, true, true, true, true, true, true, true, true, true, true, true, true, true, true] rfl rfl (by kernel_rfl) (fun _ _ _ h => h) (Or.inl ⟨by rfl, ?_⟩) ?_ ?_
  rotate_left
  · intro w'
    go_simp
    with_reducible rfl
  rotate_left
  · simp only [Act.put, List.setIfInBounds_toArray, List.set_cons_zero, List.set_cons_succ, i64_w, i32_w]
    rfl
  refine done_ (by kernel_rfl) ?_
  go_upto_region 4 with fail
  have c0 := HM.out.c0
  have c1 := HM.out.c1
  have c2 := HM.out.c2
  have c3 := HM.out.c3
  have k0 := (HC.out _ HM.out).k0
  refine start_ (n := 15) (S := fun w' => w'.cell? ⟨m, 0, none⟩ = some (.int .i64 s.n) ∧ w'.cell? ⟨m, 1, none⟩ = some (.int .i64 s.f) ∧ w'.cell? ⟨m, 2, none⟩ = some (.slice a.A s.cs.length a.ca) ∧ w'.cell? ⟨m, 3, none⟩ = some (.slice a.B s.ds.length a.cb) ∧ w'.cell? ⟨p, 0, none⟩ = some (.int .i64 c.node)) (ds := [9]) #[false, false, false, false, false, false, false, false, false, false, false, false, false, false, false] (by kernel_rfl) rfl rfl ⟨c0, c1, c2, c3, k0⟩ (fun hHeld => ?_)
  have hd_ := below_drew (RowKit.Below.refl w1.heap.size w1)
  have n0_ := Aside0.mk (HM.out.below hd_)
  have n1_ := Aside0.mk (below_then HB0.out HB0.out.size hd_)
  clear HM HB0 c0 c1 c2 c3 k0 hd_
  have HM := n0_
  have HB0 := n1_
  clear n0_ n1_
  have c0 := HM.out.c0
  have c1 := HM.out.c1
  have c2 := HM.out.c2
  have c3 := HM.out.c3
  have k0 := (HC.out _ HM.out).k0
  generalize w1.drew = wd at *
  refine pure_ (i := 0) (N := some 31) (v := ?_) (a' := ?_) #[true, false, false, false, false, false, false, false, false, false, false, false, false, false, false] rfl rfl (by kernel_rfl) (fun _ _ _ h => h) (Or.inl ⟨by rfl, ?_⟩) ?_ ?_
  rotate_left
  · intro w'
    go_simp
    with_reducible rfl
  rotate_left
  · simp only [Act.put, List.setIfInBounds_toArray, List.set_cons_zero, List.set_cons_succ, i64_w, i32_w]
    rfl
  refine pure_ (i := 1) (N := some 32) (v := ?_) (a' := ?_) #[true, true, false, false, false, false, false, false, false, false, false, false, false, false, false] rfl rfl (by kernel_rfl) (fun _ _ _ h => h) (Or.inl ⟨by rfl, ?_⟩) ?_ ?_
  rotate_left
  · intro w'
    go_simp
    with_reducible rfl
  rotate_left
  · simp only [Act.put, List.setIfInBounds_toArray, List.set_cons_zero, List.set_cons_succ, i64_w, i32_w]
    rfl
  refine pure_ (i := 2) (N := some 33) (v := ?_) (a' := ?_) #[true, true, true, false, false, false, false, false, false, false, false, false, false, false, false] rfl rfl (by kernel_rfl) (fun _ _ _ h => h) (Or.inl ⟨by rfl, ?_⟩) ?_ ?_
  rotate_left
  · intro w'
    go_simp
    with_reducible rfl
  rotate_left
  · simp only [Act.put, List.setIfInBounds_toArray, List.set_cons_zero, List.set_cons_succ, i64_w, i32_w]
    rfl
  refine pure_ (i := 4) (N := some 35) (v := ?_) (a' := ?_) #[true, true, true, false, true, false, false, false, false, false, false, false, false, false, false] rfl rfl (by kernel_rfl) (fun _ _ _ h => h) (Or.inl ⟨by rfl, ?_⟩) ?_ ?_
  rotate_left
  · intro w'
    go_simp
    with_reducible rfl
  rotate_left
  · simp only [Act.put, List.setIfInBounds_toArray, List.set_cons_zero, List.set_cons_succ, i64_w, i32_w]
    rfl
  refine pure_ (i := 5) (N := some 36) (v := ?_) (a' := ?_) #[true, true, true, false, true, true, false, false, false, false, false, false, false, false, false] rfl rfl (by kernel_rfl) (fun _ _ _ h => h) (Or.inl ⟨by rfl, ?_⟩) ?_ ?_
  rotate_left
  · intro w'
    go_simp
    with_reducible rfl
  rotate_left
  · simp only [Act.put, List.setIfInBounds_toArray, List.set_cons_zero, List.set_cons_succ, i64_w, i32_w]
    rfl
  refine pure_ (i := 6) (N := some 37) (v := ?_) (a' := ?_) #[true, true, true, false, true, true, true, false, false, false, false, false, false, false, false] rfl rfl (by kernel_rfl) (fun _ _ _ h => h) (Or.inl ⟨by rfl, ?_⟩) ?_ ?_
  rotate_left
  · intro w'
    go_simp
    with_reducible rfl
  rotate_left
  · simp only [Act.put, List.setIfInBounds_toArray, List.set_cons_zero, List.set_cons_succ, i64_w, i32_w]
    rfl
  refine pure_ (i := 8) (N := some 39) (v := ?_) (a' := ?_) #[true, true, true, false, true, true, true, false, true, false, false, false, false, false, false] rfl rfl (by kernel_rfl) (fun _ _ _ h => h) (Or.inl ⟨by rfl, ?_⟩) ?_ ?_
  rotate_left
  · intro w'
    go_simp
    with_reducible rfl
  rotate_left
  · simp only [Act.put, List.setIfInBounds_toArray, List.set_cons_zero, List.set_cons_succ, i64_w, i32_w]
    rfl
  refine take_ (i := 3) (N := some 34) (v := ?_) (a' := ?_) #[true, true, true, true, true, true, true, false, true, false, false, false, false, false, false] rfl rfl (by kernel_rfl) (fun _ _ _ h => h) (Or.inl ⟨by rfl, ?_⟩) hHeld ?_ ?_
  rotate_left
  · rintro w' ⟨s0, s1, s2, s3, s4⟩
    go_simp
    with_reducible rfl
  rotate_left
  · simp only [Act.put, List.setIfInBounds_toArray, List.set_cons_zero, List.set_cons_succ, i64_w, i32_w]
    rfl
  refine take_ (i := 7) (N := some 38) (v := ?_) (a' := ?_) #[true, true, true, true, true, true, true, true, true, false, false, false, false, false, false] rfl rfl (by kernel_rfl) (fun _ _ _ h => h) (Or.inl ⟨by rfl, ?_⟩) hHeld ?_ ?_
  rotate_left
  · rintro w' ⟨s0, s1, s2, s3, s4⟩
    go_simp
    with_reducible rfl
  rotate_left
  · simp only [Act.put, List.setIfInBounds_toArray, List.set_cons_zero, List.set_cons_succ, i64_w, i32_w]
    rfl
  refine last_ (i := 9) (N := some 40) #[true, true, true, true, true, true, true, true, true, true, false, false, false, false, false] rfl rfl (by kernel_rfl) (by decide) (fun K hK => ?_)
  refine goes_ Tryz.func162 (by kernel_rfl) rfl #[.agg #[.int .i64 s.n, .int .i64 s.f, .slice a.A s.cs.length a.ca, .slice a.B s.ds.length a.cb], .int .i64 c.node, .int .u8 pm] (by rfl) rfl rfl (by simp only [List.map_toArray, List.map_cons, List.map_nil]; rfl) ?_
  with_reducible refine (HWI.out _ HM.out).mono ?_
  rintro e_ w2 ⟨A9, c9, rfl, hb⟩
  refine ⟨_, rfl, ?_⟩
  have n0_ := Aside0.mk (HM.out.below hb)
  have n1_ := Aside0.mk (below_then HB0.out HB0.out.size hb)
  clear HM HB0 c0 c1 c2 c3 k0 hb
  have HM := n0_
  have HB0 := n1_
  clear n0_ n1_
  have c0 := HM.out.c0
  have c1 := HM.out.c1
  have c2 := HM.out.c2
  have c3 := HM.out.c3
  have k0 := (HC.out _ HM.out).k0
  clear hHeld
  clear c0 c1 c2 c3 k0
  refine hK.out _ _ ?_
  clear hK K
  refine norm_ (a' := ?_) ?_ ?_
  rotate_left
  · show Act.put _ (some 40) _ = _
    simp only [Act.put, List.setIfInBounds_toArray, List.set_cons_zero, List.set_cons_succ, i64_w, i32_w]
    rfl
  refine pure_ (i := 10) (N := some 30) (v := ?_) (a' := ?_) #[true, true, true, true, true, true, true, true, true, true, true, false, false, false, false] rfl rfl (by kernel_rfl) (fun _ _ _ h => h) (Or.inl ⟨by rfl, ?_⟩) ?_ ?_
  rotate_left
  · intro w'
    go_simp
    with_reducible rfl
  rotate_left
  · simp only [Act.put, List.setIfInBounds_toArray, List.set_cons_zero, List.set_cons_succ, i64_w, i32_w]
    rfl
  refine pure_ (i := 11) (N := some 41) (v := ?_) (a' := ?_) #[true, true, true, true, true, true, true, true, true, true, true, true, false, false, false] rfl rfl (by kernel_rfl) (fun _ _ _ h => h) (Or.inl ⟨by rfl, ?_⟩) ?_ ?_
  rotate_left
  · intro w'
    go_simp
    with_reducible rfl
  rotate_left
  · simp only [Act.put, List.setIfInBounds_toArray, List.set_cons_zero, List.set_cons_succ, i64_w, i32_w]
    rfl
  refine pure_ (i := 12) (N := some 42) (v := ?_) (a' := ?_) #[true, true, true, true, true, true, true, true, true, true, true, true, true, false, false] rfl rfl (by kernel_rfl) (fun _ _ _ h => h) (Or.inl ⟨by rfl, ?_⟩) ?_ ?_
  rotate_left
  · intro w'
    go_simp
    with_reducible rfl
  rotate_left
  · simp only [Act.put, List.setIfInBounds_toArray, List.set_cons_zero, List.set_cons_succ, i64_w, i32_w]
    rfl
  refine pure_ (i := 13) (N := some 9) (v := ?_) (a' := ?_) #[true, true, true, true, true, true, true, true, true, true, true, true, true, true, false] rfl rfl (by kernel_rfl) (fun _ _ _ h => h) (Or.inl ⟨by rfl, ?_⟩) ?_ ?_
  rotate_left
  · intro w'
    go_simp
    with_reducible rfl
  rotate_left
  · simp only [Act.put, List.setIfInBounds_toArray, List.set_cons_zero, List.set_cons_succ, i64_w, i32_w]
    rfl
  refine pure_ (i := 14) (N := some 8) (v := ?_) (a' := ?_) #[true, true, true, true, true, true, true, true, true, true, true, true, true, true, true] rfl rfl (by kernel_rfl) (fun _ _ _ h => h) (Or.inl ⟨by rfl, ?_⟩) ?_ ?_
  rotate_left
  · intro w'
    go_simp
    with_reducible rfl
  rotate_left
  · simp only [Act.put, List.setIfInBounds_toArray, List.set_cons_zero, List.set_cons_succ, i64_w, i32_w]
    rfl
  refine done_ (by kernel_rfl) ?_
  have c11 := HM.out.c11
  obtain ⟨f, ⟨hk, D, hown, hv⟩, hf2, hf3⟩ := HM.out.sp
  have HOW := Aside0.mk hown
  have HNH := Aside0.mk (show ∀ x : Int, I64 x → Maps.has D (.int .i64 x) = false from fun x hx => by
    rw [(hv x hx).1]
    cases hfx : f x with
    | none => rfl
    | some z =>
      have h0 := hf2 x (by rw [hfx]; rfl)
      have h3 := (hf3 x.toNat).1 (HNO.out _)
      rw [Int.toNat_of_nonneg h0.1, hfx] at h3
      simp at h3)
  clear hk hown hv hf2 hf3
  go_wp2_with (at_range; refine wpList_range_own _ rfl _ 126 rfl 3 139 int_law Tryz.underlying126 _ a.sb s.sn D rfl HOW.out ?_; intro w0 hrg0 hg0 hs0; have HRG := Aside0.mk hrg0; have HG0 := Aside0.mk hg0; clear hrg0 hg0 hs0)
  have HBW := Aside0.mk (below_then HB0.out HB0.out.size (show RowKit.Below w2.heap.size w2 w0 from ⟨HG0.out.os, HG0.out.tape, HG0.out.output, HG0.out.size, fun k hk => HG0.out.block k hk (by simp)⟩))
  have H0 := Aside0.mk (show RelNr κ m a s w w0 w2.heap.size s.sn D (.pointer none) w0 from ⟨_, _, rfl, HRG.out, fun _ h => h, HBW.out⟩)
  go_frame
  go_loopw [10, 11, 13, 14] (fun v10 _ _ _ wr => RelNr κ m a s w w0 w2.heap.size s.sn D v10 wr) (fun _ _ _ _ wr => wr.rangeLeft a.sb w2.heap.size)
  case atStart => exact H0.out
  case round =>
    clear H0
    obtain ⟨left, cnt, rfl, hrg, hl, hb⟩ := hrel
    have HR := Aside0.mk hrg
    have HL := Aside0.mk hl
    have HB := Aside0.mk hb
    clear hrg hl hb
    go_wp2_with (at_next; refine wpList_next_ranges _ rfl _ rfl 3 int_law ptrElem (Value.int .i64) ptrV (fun key kl hk => by obtain ⟨x, rfl, _⟩ := Maps.keyOf_int_inv Tryz.underlying3 hk; exact ⟨x, rfl⟩) (fun v y hv => ptr_shape hv) a.sb w2.heap.size s.sn D left cnt rfl HR.out ?_ ?_; rotate_left; (intro x o kl y w5 cnt2 hk hlk; exfalso; obtain ⟨x', ex, rfl, hwx⟩ := Maps.keyOf_int_inv Tryz.underlying3 hk; have h3 := HL.out _ hlk; rw [HNH.out x' hwx] at h3; cases h3); intro (hc0 : cnt = 0) hl0; clear hc0 hl0)
    go_ret
    exact ⟨rfl, HB.out⟩
end Go.Proofs.YtenkdmloolbdaaaGreatDoor.T
end
section
namespace Go.Proofs.YtenkdmloolbdaaaGreatDoor.T
open Go.RowKit Go.Maps Go.WideShapes Go.Proofs.YtenkdmloolbdaaaGreatDoorW.PrintWords Go.Proofs.YtenkdmloolbdaaaGreatDoorW.PrintLast Go.Proofs.YtenkdmloolbdaaaGreatDoorW.PrintMore
set_option linter.unusedVariables false
set_option linter.unusedSimpArgs false
theorem pcs_one (pf : Nat → Nat) (a n k : Nat) (hk : n ≤ k) (h1 : 1 ≤ n) (h64 : a % 64 + n ≤ 64) : pcs pf k a n = [(pf (a / 64), a % 64, n)] := by
  obtain ⟨k', rfl⟩ : ∃ k', k = k' + 1 := ⟨k - 1, by omega⟩
  rw [pcs, if_neg (by omega), show min n (64 - a % 64) = n by omega, Nat.sub_self, pcs_zero]
/-- Bytes within one page written. -/
theorem mem_write1 (κ : Kol) (i b each N c : Nat) (l bs : List Nat) (f g : Int → Option Int) (a0 fr cb : Nat) (B : Option Addr) (hNN : N ≤ 100000) (hcb : bs.length ≤ cb) (ha : a0 + bs.length ≤ 262144) (h1 : 1 ≤ bs.length) (h64 : a0 % 64 + bs.length ≤ 64) (hf : f ((a0 / 64 : Nat) : Int) = some ((fr : Nat) : Int)) (hfr : fr < N) (w : World) (h : MemK κ i w b each N l c f g) (hb : RdS (· = i + 1) κ w B bs) :
    Calls Tryz.prog 66 #[.pointer (some ⟨b, 0, none⟩), .int .i64 a0, .slice B bs.length cb] w fun e w' => e = .returned (.int .i64 0) ∧ ∃ κ', MemK κ' i w' b each N (spliceB l (fr * 64 + a0 % 64) bs) c f g ∧ Upd (· = i + 1) κ w κ' w' := by
  have h := mem_write κ i b each N c l bs f g (fun _ => fr) a0 cb B hNN (by omega) hcb ha (fun q _ h2 h3 => by
    obtain rfl : q = a0 / 64 := by omega
    exact ⟨hf, hfr⟩) w h hb
  rw [pcs_one _ _ _ _ (Nat.le_refl _) h1 h64] at h
  simpa [saveS] using h
theorem mem_write0 (κ : Kol) (i b each N c : Nat) (l : List Nat) (f g : Int → Option Int) (a0 cb : Nat) (B : Option Addr) (hNN : N ≤ 100000) (ha : a0 ≤ 262144) (w : World) (h : MemK κ i w b each N l c f g) :
    Calls Tryz.prog 66 #[.pointer (some ⟨b, 0, none⟩), .int .i64 a0, .slice B 0 cb] w fun e w' => e = .returned (.int .i64 0) ∧ ∃ κ', MemK κ' i w' b each N l c f g ∧ Upd (· = i + 1) κ w κ' w' := by
  have h := mem_write κ i b each N c l [] f g (fun _ => 0) a0 cb B hNN (by simp) (by simp) (by simpa using ha) (fun q h0 => by simp at h0) w h (fun κ' w' _ => ⟨rfl, by simp, fun hh => absurd hh (Nat.lt_irrefl 0)⟩)
  simpa [saveS, pcs] using h
/-- Bytes within one page read. -/
theorem mem_read1 (κ : Kol) (i b each N c n0 : Nat) (l : List Nat) (f g : Int → Option Int) (a0 fr : Nat) (hNN : N ≤ 100000) (ha : a0 + n0 ≤ 262144) (h1 : 1 ≤ n0) (h64 : a0 % 64 + n0 ≤ 64) (hf : f ((a0 / 64 : Nat) : Int) = some ((fr : Nat) : Int)) (hfr : fr < N) (hl : fr * 64 + a0 % 64 + n0 ≤ l.length) (w : World) (h : MemK κ i w b each N l c f g) :
    Calls Tryz.prog 67 #[.pointer (some ⟨b, 0, none⟩), .int .i64 a0, .int .i64 n0] w fun e w' => ∃ A cp, e = .returned (.tuple #[.slice A n0 cp, .int .i64 0]) ∧ RdB w' A n0 ((l.drop (fr * 64 + a0 % 64)).take n0) ∧ RowKit.Below w.heap.size w w' := by
  have h := mem_read κ i b each N c n0 l f g (fun _ => fr) a0 hNN (by omega) ha (fun q _ h2 h3 => by
    obtain rfl : q = a0 / 64 := by omega
    exact ⟨hf, hfr⟩) w h
  have hl2 : ((l.drop (fr * 64 + a0 % 64)).take n0).length = n0 := by rw [List.length_take, List.length_drop]; omega
  rw [pcs_one _ _ _ _ (Nat.le_refl _) h1 h64, show loadS l [(fr, a0 % 64, n0)] = (l.drop (fr * 64 + a0 % 64)).take n0 by simp [loadS], hl2] at h
  exact h
theorem make_bytes (z : Nat) (hz : z ≤ 1000000) : ∀ W : World, (Instr.makeSlice 23 (.int .i64 (z : Int)) (.int .i64 (z : Int))).run Tryz.prog W = .ok (.slice (some ⟨W.heap.size, 0, none⟩) z z) (W.alloc (.cells (bv (List.replicate z 0)) 5)) := by
  have hmk := print_make (P := Tryz.prog) 23 5 .u8 1 Tryz.underlying23 (by kernel_rfl) (by decide) z (by omega)
  have he : madeCells #[.int .u8 0] z = bv (List.replicate z 0) := by
    unfold madeCells bv
    apply Array.ext
    · simp
    · intro j h1 h2
      simp [Nat.mod_one]
  rw [he] at hmk
  exact hmk
theorem RdS.blk {I : Nat → Prop} {κ : Kol} {i g : Nat} {w : World} {bs : List Nat} {t : TypeId} (h : BlkK κ i w g (bv bs) t) (hi : ¬ I i) (hl : bs.length ≤ 1000000) : RdS I κ w (some ⟨g, 0, none⟩) bs := fun κ' w' hU => by
  have := bv_cells (h.upd hU hi).blk 0 bs.length (by omega) hl
  simpa using this
/-- What is behind a small object's address: the page stands on a frame. -/
structure OnPage (s : St) (x n fr : Nat) : Prop where
  f : s.pf ((x / 64 : Nat) : Int) = some ((fr : Nat) : Int)
  lt : fr < s.n * s.f
  fit : x % 64 + n ≤ 64
  max : x + n ≤ 262144
  N : s.n * s.f ≤ 100000
  len : s.l.length = s.n * s.f * 64
set_option maxHeartbeats 4000000 in
set_option maxRecDepth 100000 in
theorem small_pop (κ : Kol) (m : Nat) (a : Ad) (s : St) (j p : Nat) (c : Cpu) (n : Nat) (h1 : 1 ≤ n) (h64 : n ≤ 64) (l : List Int) (x fr : Nat) (hl : c.L (clOf n) = l ++ [(x : Int)]) (hl8 : l.length < 1000) (hp : a.cps[j]? = some p) (hc : s.cpus[j]? = some c) (ho : OnPage s x (clS (clOf n)) fr) (w : World) (hg : GlobK κ w) (h : MachK κ w m a s) :
    Calls Tryz.prog 62 #[.pointer (some ⟨m, 0, none⟩), .int .i64 j, .pointer (some ⟨p, 0, none⟩), .int .i64 n] w fun e w' => e = .returned (.tuple #[.int .i64 x, .int .i64 0]) ∧ ∃ κ', MachK κ' w' m a { s with cpus := s.cpus.set j { c with L := setL c.L (clOf n) l }, l := spliceB s.l (fr * 64 + x % 64) (List.replicate (clS (clOf n)) 0), pn := s.pn, pf := s.pf, pg := s.pg } ∧ Upd (fun z => 1 ≤ z) κ w κ' w' := by
  have hcl : clOf n < 4 := by unfold clOf; split <;> (try split) <;> (try split) <;> omega
  have HOF := Aside0.mk (of_class n h1 h64 w hg.g)
  have HSZ := Aside0.mk (fun (W : World) (hW : GlobR W) => size_own (clOf n) hcl W hW)
  have HG := Aside0.mk hg
  have HM := Aside0.mk h
  have HX := Aside0.mk (And.intro hp (And.intro hc (And.intro hl (And.intro hl8 ho))))
  obtain ⟨k, hk⟩ : ∃ k, clOf n = k := ⟨_, rfl⟩
  rw [hk] at HOF HSZ HX hcl ⊢
  have hs8 : 8 ≤ clS k ∧ clS k ≤ 64 := by match k, hcl with | 0, _ => decide | 1, _ => decide | 2, _ => decide | 3, _ => decide
  obtain ⟨z, hz⟩ : ∃ z, clS k = z := ⟨_, rfl⟩
  rw [hz] at HX HSZ hs8 ⊢
  clear hg h hp hc hl hl8 ho hk hz h1 h64
  go_enter Tryz.func62, Tryz.ntmps62
  go_upto_region 4 with (go_at_call 115; (with_reducible refine HOF.out.mono ?_); rintro e_ w1 ⟨rfl, hb⟩; have HB1 := Aside0.mk hb; clear hb)
  have hm1 := HM.out.below HB1.out
  obtain ⟨cb, k1, k2⟩ := hm1.cpuK HX.out.1 HX.out.2.1
  have p5 := k1.blk.at 5 (.pointer (some ⟨cb, 0, none⟩)) rfl
  have HPO := Aside0.mk (cache_pop κ (150 + 6 * j + 1) cb k hcl c.L l (x : Int) HX.out.2.2.1 HX.out.2.2.2.1 w1 k2)
  have HK := Aside0.mk (And.intro hm1 k1)
  have HG1 := Aside0.mk (HG.out.upd (I := fun _ => False) (Upd.of_below κ HB1.out) (fun h => h))
  clear hm1 k1 k2 HG HM
  go_upto_region 12 with (go_at_call 116; (with_reducible refine HPO.out.mono ?_); rintro e_ w2 ⟨rfl, q1, q2⟩; have HQ := Aside0.mk (And.intro q1 q2); clear q1 q2)
  have hj16 : j < 16 := Nat.lt_of_lt_of_le (List.getElem?_eq_some_iff.1 HX.out.2.1).1 HK.out.1.hcp
  have hU2 : Upd (fun z => 150 + 6 * j ≤ z ∧ z < 156 + 6 * j) κ w1 κ w2 := HQ.out.2.mono (fun c e => by omega)
  have HM2 := Aside0.mk (HK.out.1.putCpu (c' := { c with L := setL c.L k l }) HX.out.1 HX.out.2.1 ⟨cb, HK.out.2.upd HQ.out.2 (by omega), HQ.out.1⟩ hU2)
  have HG2 := Aside0.mk (HG1.out.upd hU2 (by omega))
  have HU2 := Aside0.mk ((Upd.of_below (I := fun z => 1 ≤ z) κ HB1.out).then hU2 (fun c e => by omega))
  clear HB1 HK HG1 HQ hU2 p5 hj16
  go_upto_region 15 with (go_at_call 119; (with_reducible refine (HSZ.out _ HG2.out.g).mono ?_); rintro e_ w3 ⟨rfl, hb⟩; have HM3 := Aside0.mk (HM2.out.below hb); have HU3 := Aside0.mk (HU2.out.below hb); clear hb)
  have c4 := HM3.out.c4
  have hmk := make_bytes z (by omega)
  have hox := HX.out.2.2.2.2
  obtain ⟨s2, hs2⟩ : ∃ s2, ({ s with cpus := s.cpus.set j { c with L := setL c.L k l } } : St) = s2 := ⟨_, rfl⟩
  have HS2 := Aside0.mk hs2
  rw [hs2] at HM3
  have HO2 := Aside0.mk (show OnPage s2 x z fr from by rw [← hs2]; exact ⟨hox.f, hox.lt, hox.fit, hox.max, hox.N, hox.len⟩)
  clear hox hs2 HM2 HG2 HU2
  refine start_ (n := 11) (S := fun w' => w'.cell? ⟨m, 4, none⟩ = some (.pointer (some ⟨a.mem, 0, none⟩))) (ds := [8]) #[false, false, false, false, false, false, false, false, false, false, false] (by kernel_rfl) rfl rfl (c4) (fun hHeld => ?_)
  have hd_ := below_drew (RowKit.Below.refl w3.heap.size w3)
  have n0_ := Aside0.mk (HM3.out.below hd_)
  have n1_ := Aside0.mk (HU3.out.below hd_)
  clear HM3 HU3 c4 hd_
  have HM3 := n0_
  have HU3 := n1_
  clear n0_ n1_
  have c4 := HM3.out.c4
  generalize w3.drew = wd at *
  refine pure_ (i := 0) (N := some 66) (v := ?_) (a' := ?_) #[true, false, false, false, false, false, false, false, false, false, false] rfl rfl (by kernel_rfl) (fun _ _ _ h => h) (Or.inl ⟨by rfl, ?_⟩) ?_ ?_
  rotate_left
  · intro w'
    go_simp
    with_reducible rfl
  rotate_left
  · simp only [Act.put, List.setIfInBounds_toArray, List.set_cons_zero, List.set_cons_succ, i64_w, i32_w]
    rfl
  refine pure_ (i := 1) (N := some 67) (v := ?_) (a' := ?_) #[true, true, false, false, false, false, false, false, false, false, false] rfl rfl (by kernel_rfl) (fun _ _ _ h => h) (Or.inl ⟨by rfl, ?_⟩) ?_ ?_
  rotate_left
  · intro w'
    go_simp
    with_reducible rfl
  rotate_left
  · simp only [Act.put, List.setIfInBounds_toArray, List.set_cons_zero, List.set_cons_succ, i64_w, i32_w]
    rfl
  refine pure_ (i := 2) (N := some 68) (v := ?_) (a' := ?_) #[true, true, true, false, false, false, false, false, false, false, false] rfl rfl (by kernel_rfl) (fun _ _ _ h => h) (Or.inl ⟨by rfl, ?_⟩) ?_ ?_
  rotate_left
  · intro w'
    go_simp
    with_reducible rfl
  rotate_left
  · simp only [Act.put, List.setIfInBounds_toArray, List.set_cons_zero, List.set_cons_succ, i64_w, i32_w]
    rfl
  refine pure_ (i := 3) (N := some 69) (v := ?_) (a' := ?_) #[true, true, true, true, false, false, false, false, false, false, false] rfl rfl (by kernel_rfl) (fun _ _ _ h => h) (Or.inl ⟨by rfl, ?_⟩) ?_ ?_
  rotate_left
  · intro w'
    go_simp
    with_reducible rfl
  rotate_left
  · simp only [Act.put, List.setIfInBounds_toArray, List.set_cons_zero, List.set_cons_succ, i64_w, i32_w]
    rfl
  refine pure_ (i := 5) (N := some 71) (v := ?_) (a' := ?_) #[true, true, true, true, false, true, false, false, false, false, false] rfl rfl (by kernel_rfl) (fun _ _ _ h => h) (Or.inl ⟨by rfl, ?_⟩) ?_ ?_
  rotate_left
  · intro w'
    go_simp
    with_reducible rfl
  rotate_left
  · simp only [Act.put, List.setIfInBounds_toArray, List.set_cons_zero, List.set_cons_succ, i64_w, i32_w]
    rfl
  refine pure_ (i := 6) (N := some 72) (v := ?_) (a' := ?_) #[true, true, true, true, false, true, true, false, false, false, false] rfl rfl (by kernel_rfl) (fun _ _ _ h => h) (Or.inl ⟨by rfl, ?_⟩) ?_ ?_
  rotate_left
  · intro w'
    go_simp
    with_reducible rfl
  rotate_left
  · simp only [Act.put, List.setIfInBounds_toArray, List.set_cons_zero, List.set_cons_succ, i64_w, i32_w]
    rfl
  refine take_ (i := 4) (N := some 70) (v := ?_) (a' := ?_) #[true, true, true, true, true, true, true, false, false, false, false] rfl rfl (by kernel_rfl) (fun _ _ _ h => h) (Or.inl ⟨by rfl, ?_⟩) hHeld ?_ ?_
  rotate_left
  · intro w' s0
    go_simp
    with_reducible rfl
  rotate_left
  · simp only [Act.put, List.setIfInBounds_toArray, List.set_cons_zero, List.set_cons_succ, i64_w, i32_w]
    rfl
  refine one_ (i := 7) (N := some 73) #[true, true, true, true, true, true, true, true, false, false, false] rfl rfl (by kernel_rfl) (by decide) (fun K hK => ?_)
  refine value_ (w1 := ?_) (v := ?_) (by rfl) rfl ?_ ?_
  rotate_left 2
  · go_simp
    constructor
    · rfl
    · rfl
  have hUm : Upd (fun _ => False) κ wd (κ.ext wd.heap.size 0) (wd.alloc (.cells (bv (List.replicate z 0)) 5)) := (Upd.of_below κ (below_alloc (RowKit.Below.refl _ _) _)).paint _ _ (Nat.le_refl _)
  have HMM := Aside0.mk (HM3.out.upd hUm (fun _ _ h => h))
  have HUM := Aside0.mk (HU3.out.then hUm (fun _ h => h.elim))
  have HBM := Aside0.mk (BlkK.new κ wd 0 (bv (List.replicate z 0)) 5)
  refine hK.out _ _ (HMM.out.c4) (fun hHeld => ?_)
  clear hK K
  refine norm_ (a' := ?_) ?_ ?_
  rotate_left
  · show Act.put _ (some 73) _ = _
    simp only [Act.put, List.setIfInBounds_toArray, List.set_cons_zero, List.set_cons_succ, i64_w, i32_w]
    rfl
  refine last_ (i := 8) (N := some 74) #[true, true, true, true, true, true, true, true, true, false, false] rfl rfl (by kernel_rfl) (by decide) (fun K hK => ?_)
  have HWR := Aside0.mk (by have h_ := mem_write1 (κ.ext wd.heap.size 0) 3 a.mem s2.f (s2.n * s2.f) s2.pn s2.l (List.replicate z 0) s2.pf s2.pg x fr z (some ⟨wd.heap.size, 0, none⟩) HO2.out.N (by simp) (by simp only [List.length_replicate]; exact HO2.out.max) (by simp only [List.length_replicate]; omega) (by simp only [List.length_replicate]; exact HO2.out.fit) HO2.out.f HO2.out.lt _ HMM.out.mem (RdS.blk HBM.out (by omega) (by simp only [List.length_replicate]; omega)); rw [List.length_replicate] at h_; exact h_)
  refine goes_ Tryz.func66 (by kernel_rfl) rfl #[.pointer (some ⟨a.mem, 0, none⟩), .int .i64 x, .slice (some ⟨wd.heap.size, 0, none⟩) z z] (by rfl) rfl rfl (by simp only [List.map_toArray, List.map_cons, List.map_nil]; rfl) ?_
  with_reducible refine (HWR.out).mono ?_
  rintro e_ w5 ⟨rfl, q1_⟩
  refine ⟨_, rfl, ?_⟩
  have HR := Aside0.mk q1_
  clear q1_
  refine hK.out _ _ ?_
  clear hK K
  refine norm_ (a' := ?_) ?_ ?_
  rotate_left
  · show Act.put _ (some 74) _ = _
    simp only [Act.put, List.setIfInBounds_toArray, List.set_cons_zero, List.set_cons_succ, i64_w, i32_w]
    rfl
  refine pure_ (i := 9) (N := some 8) (v := ?_) (a' := ?_) #[true, true, true, true, true, true, true, true, true, true, false] rfl rfl (by kernel_rfl) (fun _ _ _ h => h) (Or.inl ⟨by rfl, ?_⟩) ?_ ?_
  rotate_left
  · intro w'
    go_simp
    with_reducible rfl
  rotate_left
  · simp only [Act.put, List.setIfInBounds_toArray, List.set_cons_zero, List.set_cons_succ, i64_w, i32_w]
    rfl
  refine pure_ (i := 10) (N := some 9) (v := ?_) (a' := ?_) #[true, true, true, true, true, true, true, true, true, true, true] rfl rfl (by kernel_rfl) (fun _ _ _ h => h) (Or.inl ⟨by rfl, ?_⟩) ?_ ?_
  rotate_left
  · intro w'
    go_simp
    with_reducible rfl
  rotate_left
  · simp only [Act.put, List.setIfInBounds_toArray, List.set_cons_zero, List.set_cons_succ, i64_w, i32_w]
    rfl
  refine done_ (by kernel_rfl) ?_
  go_wp2_with fail
  go_ret2
  obtain ⟨κ3, g1, g2⟩ := HR.out
  have hm5 := HMM.out.putMem _ _ _ _ g1 (g2.mono (fun c e => by omega))
  rw [← HS2.out] at hm5
  exact ⟨rfl, κ3, hm5, HUM.out.then g2 (fun c e => by omega)⟩
end Go.Proofs.YtenkdmloolbdaaaGreatDoor.T
end
section
namespace Go.Proofs.YtenkdmloolbdaaaGreatDoor.T
open Go.RowKit Go.Maps Go.WideShapes Go.Proofs.YtenkdmloolbdaaaGreatDoorW.PrintWords Go.Proofs.YtenkdmloolbdaaaGreatDoorW.PrintLast Go.Proofs.YtenkdmloolbdaaaGreatDoorW.PrintMore
set_option linter.unusedVariables false
set_option linter.unusedSimpArgs false
/-- What must hold for a span more. -/
structure GrowP (s : St) (a : Ad) (j p : Nat) (c : Cpu) (cls k st ow : Nat) (cur' : Int) (x : Bud) (K y : Nat) (r : List Nat) (page : Nat) (rs : List (Int × Int)) : Prop where
  h_cl : cls < 4
  h_set : c.set < 256
  h_p : a.cps[j]? = some p
  h_c : s.cpus[j]? = some c
  h_ch : TZ.chV s.n s.f s.cs s.ds c.mode c.set c.nd j c.cur (s.bs.map fun x => mayB s.mn x (clO cls)) = ((k : Int), (st : Int), cur', 0)
  h_x : s.bs[k]? = some x
  h_T : CanT s.f s.mn x (clO cls) K y r
  h_all : ∀ x ∈ s.bs, ∀ k, k < 11 → (x.fr k).length ≤ 1024
  h_mn : -100000 ≤ s.mn
  h_node : c.node = (ow : Int)
  h_ow : ow < s.n
  h_st : st < s.n
  h_k : k < s.n
  h_n8 : s.n ≤ 8
  h_f : s.f ≤ 1024
  h_ev : s.ev.length ≤ 1000000
  h_tk : TS.takeR ((2 ^ clO cls : Nat) : Int) s.rs = ((page : Int), 0, rs)
  h_pg : page + 2 ^ clO cls ≤ 4096
  h_pf : ∀ i, i < 2 ^ clO cls → s.pf ((page + i : Nat) : Int) = none
  h_pgf : ∀ i, i < 2 ^ clO cls → s.pg ((k * s.f + y + i : Nat) : Int) = none
  h_fr : k * s.f + y + 2 ^ clO cls ≤ s.n * s.f
  h_pn : s.pn ≤ 100000
  h_sn : s.sn ≤ 100000
  h_pol : TZ.polR c.mode c.set c.nd s.n = 0
  h_er : TZ.erN s.n s.f s.cs s.ds c.node = 0
  h_no : ∀ q, s.sp q = none
  h_L : c.L cls = []
  h_len : s.l.length = s.n * s.f * 64
def takS (s : St) (j : Nat) (c : Cpu) (cls k st ow : Nat) (cur' : Int) (x : Bud) (K y page : Nat) (rs : List (Int × Int)) : St :=
  fiS (growS (acqS s j c k st ow cur' x K y (clO cls) c.mode) page (k * s.f + y) k (clO cls) cls rs) j { c with cur := cur' } page ⟨k, clO cls, k * s.f + y, cls, 0⟩ 4
theorem fresh_tk : ∀ i, i ≤ 4 → tkI 0 i < 256 := by
  intro i hi
  match i, hi with
  | 0, _ => decide +kernel
  | 1, _ => decide +kernel
  | 2, _ => decide +kernel
  | 3, _ => decide +kernel
  | 4, _ => decide +kernel
theorem fresh_fr (cls : Nat) (hc : cls < 4) : ∀ i, i < 4 → freeI (tkI 0 i) < clN cls := by
  have h0 : ∀ c : Nat, c < 4 → ∀ i : Nat, i < 4 → freeI (tkI 0 i) < clN c := by decide +kernel
  exact h0 cls hc
set_option maxHeartbeats 4000000 in
set_option maxRecDepth 100000 in
theorem taken_own [SortI] (κ : Kol) (m : Nat) (a : Ad) (s : St) (j p : Nat) (c : Cpu) (cls k st ow : Nat) (cur' : Int) (x : Bud) (K y : Nat) (r : List Nat) (page : Nat) (rs : List (Int × Int)) (hP : GrowP s a j p c cls k st ow cur' x K y r page rs) (w : World) (hg : GlobK κ w) (h : MachK κ w m a s) :
    Calls Tryz.prog 117 #[.pointer (some ⟨m, 0, none⟩), .int .i64 j, .pointer (some ⟨p, 0, none⟩), .int .i64 cls] w fun e w' => e = .returned (.tuple #[.int .i64 (adI page cls 0 0), .int .i64 0]) ∧ ∃ κ', MachK κ' w' m a (takS s j c cls k st ow cur' x K y page rs) ∧ Upd (fun z => 1 ≤ z) κ w κ' w' := by
  have HNE := Aside0.mk (nearest_none κ m a s j p c cls hP.h_p hP.h_c (by have := hP.h_k; omega) hP.h_n8 hP.h_pol hP.h_er hP.h_no w h)
  have HGR := Aside0.mk (fun (W : World) (hG : GlobK κ W) (hW : MachK κ W m a s) => grow_own κ m a s j p c cls hP.h_cl hP.h_set hP.h_p hP.h_c k st ow cur' hP.h_ch x K y r hP.h_x hP.h_T hP.h_all hP.h_mn hP.h_node hP.h_ow hP.h_st hP.h_k hP.h_n8 hP.h_f hP.h_ev page rs hP.h_tk hP.h_pg hP.h_pf hP.h_pgf hP.h_fr hP.h_pn hP.h_sn W hG hW)
  obtain ⟨s1, hs1⟩ : ∃ s1, growS (acqS s j c k st ow cur' x K y (clO cls) c.mode) page (k * s.f + y) k (clO cls) cls rs = s1 := ⟨_, rfl⟩
  have hc1 : s1.cpus[j]? = some { c with cur := cur' } := by rw [← hs1]; show (s.cpus.set j _)[j]? = _; rw [List.getElem?_set, if_pos rfl, if_pos (List.getElem?_eq_some_iff.1 hP.h_c).1]
  have hp1 : s1.sp page = some ⟨k, clO cls, k * s.f + y, cls, 0⟩ := by rw [← hs1]; show setSp _ page _ page = _; unfold setSp; rw [if_pos rfl]
  have HFI := Aside0.mk (fun (κ' : Kol) (W : World) (q : Nat) (hG : GlobK κ' W) (hW : MachK κ' W m a s1) hat hh => fill_own κ' m a s1 j p { c with cur := cur' } q page ⟨k, clO cls, k * s.f + y, cls, 0⟩ hP.h_cl (fun i hi => fresh_tk i hi) (fresh_fr cls hP.h_cl) hP.h_p hc1 (by show (c.L cls).length ≤ 4; rw [hP.h_L]; simp) (by have := hP.h_pg; have := Nat.one_le_two_pow (n := clO cls); omega) hp1 W hG hW hat hh)
  have HS := Aside0.mk (show takS s j c cls k st ow cur' x K y page rs = fiS s1 j { c with cur := cur' } page ⟨k, clO cls, k * s.f + y, cls, 0⟩ 4 from by rw [← hs1]; rfl)
  rw [hs1] at HGR
  have HG := Aside0.mk hg
  have HM := Aside0.mk h
  clear hP hs1 hc1 hp1 hg h
  go_enter Tryz.func117, Tryz.ntmps117
  go_wp2_with (first | (go_at_call 168; (with_reducible refine HNE.out.mono ?_); rintro e_ w1 ⟨rfl, hb⟩; have HB := Aside0.mk hb; have HG1 := Aside0.mk (HG.out.upd (I := fun _ => False) (Upd.of_below κ hb) (fun h => h)); clear hb) | (go_at_call 169; (with_reducible refine (HGR.out _ HG1.out (HM.out.below HB.out)).mono ?_); rintro e_ w2 ⟨q, κ1, rfl, q1, q2, q3, q4⟩; have HQ := Aside0.mk (And.intro q1 (And.intro q2 (And.intro q3 q4))); clear q1 q2 q3 q4) | (go_at_call 170; (with_reducible refine (HFI.out _ _ q (HG1.out.upd HQ.out.2.2.2 (by omega)) HQ.out.1 HQ.out.2.1 HQ.out.2.2.1).mono ?_); rintro e_ w3 ⟨rfl, κ2, q1, q2⟩; have HR := Aside0.mk (And.intro q1 q2); clear q1 q2))
  go_ret2
  refine ⟨rfl, κ2, by rw [HS.out]; exact HR.out.1, ((Upd.of_below (I := fun z => 1 ≤ z) κ HB.out).then HQ.out.2.2.2 (fun _ h => h)).then HR.out.2 (fun _ h => h)⟩
end Go.Proofs.YtenkdmloolbdaaaGreatDoor.T
end
