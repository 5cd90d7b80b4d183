/- The law ChooseNear, walked. -/
import Derived.Test.YtffmhpfdfcpniaaAH
import Derived.Deep.DeepCutAuto
namespace Go.Proofs.Ytffmhpfdfcpniaa.T
open Go.RowKit Go.Proofs.YtffmhpfdfcpniaaW.PrintWords Go.Proofs.YtffmhpfdfcpniaaW.PrintLast Go.Proofs.YtffmhpfdfcpniaaW.PrintMore Go.Proofs.Ytffmhpfdfcpniaa.PH
set_option linter.unusedVariables false
set_option linter.unusedSimpArgs false
theorem Blk.store4 {w : World} {b g : Nat} {cs : Array Value} {t : TypeId} (h : Blk w b cs t) (hp : b ≠ g) (v0 v1 v2 v3 : Value) : Blk ((((w.setCell ⟨g, 0, none⟩ v0).setCell ⟨g, 1, none⟩ v1).setCell ⟨g, 2, none⟩ v2).setCell ⟨g, 3, none⟩ v3) b cs t :=
  (((h.other ⟨g, 0, none⟩ hp v0).other ⟨g, 1, none⟩ hp v1).other ⟨g, 2, none⟩ hp v2).other ⟨g, 3, none⟩ hp v3
theorem Blk.put4 {w : World} {b : Nat} {t : TypeId} {a0 a1 a2 a3 : Value} (h : Blk w b #[a0, a1, a2, a3] t) (v0 v1 v2 v3 : Value) : Blk ((((w.setCell ⟨b, 0, none⟩ v0).setCell ⟨b, 1, none⟩ v1).setCell ⟨b, 2, none⟩ v2).setCell ⟨b, 3, none⟩ v3) b #[v0, v1, v2, v3] t := (((h.set 0 v0).set 1 v1).set 2 v2).set 3 v3
theorem chk_vals (n f : Int) (cs : List Int) (ds : List (List Int)) : chk n f cs ds ≠ 5 := by
  unfold chk
  split
  · split
    · split <;> decide
    · decide
  · decide
theorem pol_vals (m s nd n : Int) : polR m s nd n ≠ 5 := by
  unfold polR
  split
  · decide
  · split
    · split
      · decide
      · split <;> decide
    · split
      · split <;> decide
      · decide
/-- What choose.Node answers: an error, or of a start the nearest one that may, if there is one. -/
theorem chV_cases {n f : Int} {cs : List Int} {ds : List (List Int)} {m : Int} {s : Nat} (hs : s < 256) {nd cpu cur : Int} {may : List Bool} {r : Int × Int × Int × Int} (h : chV n f cs ds m s nd cpu cur may = r) :
    (∃ er, r = (0, 0, 0, er) ∧ er ≠ 0 ∧ er ≠ 5) ∨ (∃ (k a : Nat) (y : Int), n = (k : Int) ∧ 1 ≤ k ∧ k ≤ 8 ∧ a < k ∧ chk n f cs ds = 0 ∧ polR m s nd k = 0 ∧ Far ds a k ∧ ds.length = k ∧ (ds.getD a []).length = k ∧
      r = ((nearR may (inL (permR m s k) (ordL ds a k))).getD 0, (a : Int), y, if (nearR may (inL (permR m s k) (ordL ds a k))).isSome = true then 0 else 5)) := by
  by_cases hc : chk n f cs ds = 0
  · by_cases hcpu : cpu < 0 ∨ (cs.length : Int) ≤ cpu
    · left
      exact ⟨11, by rw [← h]; unfold chV; rw [if_pos hc, if_pos hcpu], by decide, by decide⟩
    · obtain ⟨k, rfl, h1, h8, hdl, hrl, hfits⟩ := chk_zero hc
      by_cases hp0 : polR m s nd k = 0
      · right
        obtain ⟨i, rfl⟩ : ∃ i : Nat, cpu = (i : Int) := ⟨cpu.toNat, by omega⟩
        have hi : i < cs.length := by omega
        obtain ⟨oi, o2⟩ : 0 ≤ rd cs (i : Int) ∧ rd cs (i : Int) < k := by
          unfold rd
          rw [Int.toNat_natCast, List.getD_eq_getElem?_getD, List.getElem?_eq_getElem hi]
          exact chk_cpus hc _ (List.getElem_mem hi)
        obtain ⟨x0, xk⟩ := start_in m s hs nd k h1 h8 (rd cs (i : Int)) cur oi o2 hp0
        obtain ⟨st, hst⟩ : ∃ st, startR m s nd (rd cs (i : Int)) cur = st := ⟨_, rfl⟩
        obtain ⟨x, y⟩ := st
        rw [hst] at x0 xk
        simp only at x0 xk
        obtain ⟨a, rfl⟩ : ∃ a : Nat, x = (a : Int) := ⟨x.toNat, by omega⟩
        have he0 : erN (k : Int) f cs ds (a : Int) = 0 := by unfold erN; rw [if_pos hc, if_neg (by omega)]
        obtain ⟨k', a', hk', ha', hak, _, _, _, hf⟩ := er_zero he0
        obtain rfl : k = k' := by omega
        obtain rfl : a = a' := by omega
        refine ⟨k, a, y, rfl, h1, h8, hak, hc, hp0, hf, hdl, hrl a hak, ?_⟩
        rw [← h]
        unfold chV
        rw [if_pos hc, if_neg hcpu, if_pos hp0, hst, Int.toNat_natCast, Int.toNat_natCast]
      · left
        exact ⟨_, by rw [← h]; unfold chV; rw [if_pos hc, if_neg hcpu, if_neg hp0], hp0, pol_vals _ _ _ _⟩
  · left
    exact ⟨_, by rw [← h]; unfold chV; rw [if_neg hc], hc, chk_vals _ _ _ _⟩
/-- Of a set the nearest one that may. -/
theorem near_in_none (dist : List (List Int)) (a n : Nat) (h : Far dist a n) (s : Int) (may : List Bool) (ho : nearR may (inL s (ordL dist a n)) = none) (i : Nat) (hi : i < n) : bothB s may (i : Int) = false := by
  rw [near_both, List.find?_eq_none] at ho
  have := ho _ (ordL_mem dist a n h i hi)
  simpa using this
theorem near_in_some (dist : List (List Int)) (a n : Nat) (h : Far dist a n) (s : Int) (may : List Bool) (x : Int) (ho : nearR may (inL s (ordL dist a n)) = some x) : ∃ q : Nat, x = (q : Int) ∧ q < n ∧ bothB s may x = true ∧ ∀ i, i < n → bothB s may (i : Int) = true → dd dist a q < dd dist a i ∨ (dd dist a q = dd dist a i ∧ q ≤ i) := by
  rw [near_both, List.find?_eq_some_iff_append] at ho
  obtain ⟨hy, l1, l2, hl, hno⟩ := ho
  have hmem : x ∈ ordL dist a n := by rw [hl]; simp
  obtain ⟨q, rfl, hq⟩ := ordL_of_mem dist a n x hmem
  refine ⟨q, rfl, hq, hy, fun i hi hoki => ?_⟩
  have hpw := ordL_sorted dist a n h
  have him := ordL_mem dist a n h i hi
  rw [hl] at him hpw
  rcases List.mem_append.1 him with h1 | h1
  · have := hno _ h1
    rw [hoki] at this
    simp at this
  · rcases List.mem_cons.1 h1 with h2 | h2
    · have : i = q := by omega
      subst this
      exact .inr ⟨rfl, Nat.le_refl _⟩
    · have h3 := (List.pairwise_cons.1 (List.pairwise_append.1 hpw).2.1).1 _ h2
      rw [Int.toNat_natCast, Int.toNat_natCast] at h3
      omega
def RelW (k : Nat) (w6 : World) (v11 : Value) (wr : World) : Prop := ∃ i : Nat, v11 = .int .i64 i ∧ i ≤ k ∧ RowKit.Below w6.heap.size w6 wr
set_option maxHeartbeats 4000000 in
set_option maxRecDepth 100000 in
theorem nearest_law (n f : Int) (A : Option Addr) (ca : Nat) (cpus : List Int) (B : Option Addr) (cb : Nat) (dist : List (List Int)) (m : Int) (s : Nat) (hs : s < 256) (nd cpu cur : Int) (M : Option Addr) (cm : Nat) (may : List Bool) (w : World) (hr2 : Kd.C (Kd.int .i64) w A cpus.length cpus) (hca : cpus.length ≤ ca) (hr3 : Kd.C (Kd.slice 3 (Kd.int .i64)) w B dist.length dist) (hcb : dist.length ≤ cb) (hrm : Kd.C Kd.bool w M may.length may) (hcm : may.length ≤ cm) :
    Calls Try.prog 7 #[.agg #[.int .i64 n, .int .i64 f, .slice A cpus.length ca, .slice B dist.length cb], .agg #[.int .i64 m, .int .u8 s, .int .i64 nd], .agg #[.int .i64 cpu, .int .i64 cur, .slice M may.length cm]] w fun e w' => e = .returned (.bool true) ∧ RowKit.Below w.heap.size w w' := by
  obtain ⟨cs, hcs⟩ : ∃ cs, cpus.take 20 = cs := ⟨_, rfl⟩
  obtain ⟨ds, hds⟩ : ∃ ds, dist.take 10 = ds := ⟨_, rfl⟩
  obtain ⟨lm, hlm⟩ : ∃ lm, may.length = lm := ⟨_, rfl⟩
  have h20 : min cpus.length 20 = cs.length := by rw [← hcs, List.length_take]; omega
  have h10 : min dist.length 10 = ds.length := by rw [← hds, List.length_take]; omega
  have HTM := Aside0.mk (fun (W : World) => tame11_own n f A cpus.length ca B dist.length cb cs.length ds.length W h20 h10 hca hcb hr2.2.1 hr3.2.1)
  have HC2 := Aside0.mk (show Kd.C (Kd.int .i64) w A cs.length cs from hcs ▸ C_take' hr2 20)
  have HC3 := Aside0.mk (show Kd.C (Kd.slice 3 (Kd.int .i64)) w B ds.length ds from hds ▸ C_take' hr3 10)
  have HCM := Aside0.mk hrm
  have HLM := Aside0.mk hlm
  have hca' : cs.length ≤ ca := by omega
  have hcb' : ds.length ≤ cb := by omega
  obtain ⟨⟨v0, v1, v2, er⟩, hv⟩ : ∃ v, chV n f cs ds m s nd cpu cur may = v := ⟨_, rfl⟩
  have HND := Aside0.mk (show ∀ (W : World), RowKit.Below w.heap.size w W → Calls Try.prog 21 #[.agg #[.int .i64 n, .int .i64 f, .slice A cs.length ca, .slice B ds.length cb], .agg #[.int .i64 m, .int .u8 s, .int .i64 nd], .int .i64 cpu, .int .i64 cur, .slice M lm cm] W (fun e w' => e = .returned (.tuple #[.agg #[.int .i64 v0, .int .i64 v1, .int .i64 v2], .int .i64 er]) ∧ RowKit.Below W.heap.size W w') from fun W hW => by
    have := node_own n f A ca cs B cb ds m s hs nd cpu cur M cm may W (Kd.C_below HC2.out hW) hca' (Kd.C_below HC3.out hW) hcb' (Kd.C_below HCM.out hW)
    rw [hv, hlm] at this
    exact this)
  have HV := Aside0.mk hv
  rw [hlm]
  rw [hlm] at HCM
  clear hr2 hr3 hrm hcm h20 h10 hcs hds hlm hv
  go_enter Try.func7, Try.ntmps7
  go_upto_region 2 with (go_at_call 20; (with_reducible refine (HTM.out _).mono ?_); rintro e_ w2 ⟨rfl, hb⟩; have HX := Aside0.mk ((((Blk.new w #[.int .i64 n, .int .i64 f, .slice A cpus.length ca, .slice B dist.length cb] 25).alloc _).alloc _).below hb); have HP := Aside0.mk (((Blk.new1 w _ #[.int .i64 m, .int .u8 s, .int .i64 nd] 49).alloc _).below hb); have HA := Aside0.mk ((Blk.new2 w _ _ #[.int .i64 cpu, .int .i64 cur, .slice M lm cm] 51).below hb); have HB := Aside0.mk (below_then (below_alloc (below_alloc (below_alloc (RowKit.Below.refl w.heap.size w) _) _) _) (below_alloc (below_alloc (below_alloc (RowKit.Below.refl w.heap.size w) _) _) _).size hb); clear hb; have c0 := HX.out.at 0 (.int .i64 n) rfl; have c1 := HX.out.at 1 (.int .i64 f) rfl; have c2 := HX.out.at 2 (.slice A cpus.length ca) rfl; have c3 := HX.out.at 3 (.slice B dist.length cb) rfl; have f0 := HX.out.fz 0; have f1 := HX.out.fz 1; have f2 := HX.out.fz 2; have f3 := HX.out.fz 3)
  have n0_ := Aside0.mk (HX.out.put4 (.int .i64 n) (.int .i64 f) (.slice A cs.length ca) (.slice B ds.length cb))
  have n1_ := Aside0.mk (HP.out.store4 (g := w.heap.size) (by omega) (.int .i64 n) (.int .i64 f) (.slice A cs.length ca) (.slice B ds.length cb))
  have n2_ := Aside0.mk (HA.out.store4 (g := w.heap.size) (by omega) (.int .i64 n) (.int .i64 f) (.slice A cs.length ca) (.slice B ds.length cb))
  have n3_ := Aside0.mk (below_store HB.out (Nat.le_refl _) (.int .i64 n) (.int .i64 f) (.slice A cs.length ca) (.slice B ds.length cb))
  clear HX HP HA HB c0 c1 c2 c3 f0 f1 f2 f3
  generalize (((w2.setCell { block := w.heap.size, off := 0 } (Value.int IntKind.i64 n)).setCell { block := w.heap.size, off := 1 } (Value.int IntKind.i64 f)).setCell { block := w.heap.size, off := 2 } (Value.slice A cs.length ca)).setCell { block := w.heap.size, off := 3 } (Value.slice B ds.length cb) = W at *
  have HX := n0_
  have HP := n1_
  have HA := n2_
  have HB := n3_
  clear n0_ n1_ n2_ n3_ HTM
  have c0 := HX.out.at 0 (.int .i64 n) rfl
  have c1 := HX.out.at 1 (.int .i64 f) rfl
  have c2 := HX.out.at 2 (.slice A cs.length ca) rfl
  have c3 := HX.out.at 3 (.slice B ds.length cb) rfl
  have p0 := HP.out.at 0 (.int .i64 m) rfl
  have p1 := HP.out.at 1 (.int .u8 s) rfl
  have p2 := HP.out.at 2 (.int .i64 nd) rfl
  have a0 := HA.out.at 0 (.int .i64 cpu) rfl
  have a1 := HA.out.at 1 (.int .i64 cur) rfl
  have a2 := HA.out.at 2 (.slice M lm cm) rfl
  refine start_ (n := 17) (S := fun w' => w'.cell? ⟨w.heap.size, 0, none⟩ = some (.int .i64 n) ∧ w'.cell? ⟨w.heap.size, 1, none⟩ = some (.int .i64 f) ∧ w'.cell? ⟨w.heap.size, 2, none⟩ = some (.slice A cs.length ca) ∧ w'.cell? ⟨w.heap.size, 3, none⟩ = some (.slice B ds.length cb) ∧ w'.cell? ⟨w.heap.size + 1, 0, none⟩ = some (.int .i64 m) ∧ w'.cell? ⟨w.heap.size + 1, 1, none⟩ = some (.int .u8 s) ∧ w'.cell? ⟨w.heap.size + 1, 2, none⟩ = some (.int .i64 nd) ∧ w'.cell? ⟨w.heap.size + 1 + 1, 0, none⟩ = some (.int .i64 cpu) ∧ w'.cell? ⟨w.heap.size + 1 + 1, 1, none⟩ = some (.int .i64 cur) ∧ w'.cell? ⟨w.heap.size + 1 + 1, 2, none⟩ = some (.slice M lm cm)) (ds := [15]) #[false, false, false, false, false, false, false, false, false, false, false, false, false, false, false, false, false] (by kernel_rfl) rfl rfl ⟨c0, c1, c2, c3, p0, p1, p2, a0, a1, a2⟩ (fun hHeld => ?_)
  have hd_ := below_drew (RowKit.Below.refl W.heap.size W)
  have n0_ := Aside0.mk (below_then HB.out HB.out.size hd_)
  have n1_ := Aside0.mk (HX.out.below hd_)
  have n2_ := Aside0.mk (HP.out.below hd_)
  have n3_ := Aside0.mk (HA.out.below hd_)
  clear HB HX HP HA c0 c1 c2 c3 p0 p1 p2 a0 a1 a2 hd_
  have HB := n0_
  have HX := n1_
  have HP := n2_
  have HA := n3_
  clear n0_ n1_ n2_ n3_
  have c0 := HX.out.at 0 (.int .i64 n) rfl
  have c1 := HX.out.at 1 (.int .i64 f) rfl
  have c2 := HX.out.at 2 (.slice A cs.length ca) rfl
  have c3 := HX.out.at 3 (.slice B ds.length cb) rfl
  have p0 := HP.out.at 0 (.int .i64 m) rfl
  have p1 := HP.out.at 1 (.int .u8 s) rfl
  have p2 := HP.out.at 2 (.int .i64 nd) rfl
  have a0 := HA.out.at 0 (.int .i64 cpu) rfl
  have a1 := HA.out.at 1 (.int .i64 cur) rfl
  have a2 := HA.out.at 2 (.slice M lm cm) rfl
  generalize W.drew = wd at *
  have HD := Aside0.mk (RowKit.Below.refl wd.heap.size wd)
  refine pure_ (i := 4) (N := some 19) (v := ?_) (a' := ?_) #[false, false, false, false, true, false, false, false, false, false, false, false, false, false, false, false, false] rfl rfl (by kernel_rfl) (fun _ _ _ h => h) (Or.inl ⟨by rfl, ?_⟩) ?_ ?_
  rotate_left
  · intro w'
    go_simp
    with_reducible rfl
  rotate_left
  · simp only [Act.put, List.setIfInBounds_toArray, List.set_cons_zero, List.set_cons_succ, i64_w, i32_w]
    rfl
  refine pure_ (i := 6) (N := some 21) (v := ?_) (a' := ?_) #[false, false, false, false, true, false, true, false, false, false, false, false, false, false, false, false, false] rfl rfl (by kernel_rfl) (fun _ _ _ h => h) (Or.inl ⟨by rfl, ?_⟩) ?_ ?_
  rotate_left
  · intro w'
    go_simp
    with_reducible rfl
  rotate_left
  · simp only [Act.put, List.setIfInBounds_toArray, List.set_cons_zero, List.set_cons_succ, i64_w, i32_w]
    rfl
  refine pure_ (i := 8) (N := some 23) (v := ?_) (a' := ?_) #[false, false, false, false, true, false, true, false, true, false, false, false, false, false, false, false, false] rfl rfl (by kernel_rfl) (fun _ _ _ h => h) (Or.inl ⟨by rfl, ?_⟩) ?_ ?_
  rotate_left
  · intro w'
    go_simp
    with_reducible rfl
  rotate_left
  · simp only [Act.put, List.setIfInBounds_toArray, List.set_cons_zero, List.set_cons_succ, i64_w, i32_w]
    rfl
  refine take_ (i := 0) (N := some 15) (v := ?_) (a' := ?_) #[true, false, false, false, true, false, true, false, true, false, false, false, false, false, false, false, false] rfl rfl (by kernel_rfl) (fun _ _ _ h => h) (Or.inl ⟨by rfl, ?_⟩) hHeld ?_ ?_
  rotate_left
  · rintro w' ⟨s0, s1, s2, s3, s4, s5, s6, s7, s8, s9⟩
    go_simp
    with_reducible rfl
  rotate_left
  · simp only [Act.put, List.setIfInBounds_toArray, List.set_cons_zero, List.set_cons_succ, i64_w, i32_w]
    rfl
  refine take_ (i := 2) (N := some 17) (v := ?_) (a' := ?_) #[true, false, true, false, true, false, true, false, true, false, false, false, false, false, false, false, false] rfl rfl (by kernel_rfl) (fun _ _ _ h => h) (Or.inl ⟨by rfl, ?_⟩) hHeld ?_ ?_
  rotate_left
  · rintro w' ⟨s0, s1, s2, s3, s4, s5, s6, s7, s8, s9⟩
    go_simp
    with_reducible rfl
  rotate_left
  · simp only [Act.put, List.setIfInBounds_toArray, List.set_cons_zero, List.set_cons_succ, i64_w, i32_w]
    rfl
  refine take_ (i := 5) (N := some 20) (v := ?_) (a' := ?_) #[true, false, true, false, true, true, true, false, true, false, false, false, false, false, false, false, false] rfl rfl (by kernel_rfl) (fun _ _ _ h => h) (Or.inl ⟨by rfl, ?_⟩) hHeld ?_ ?_
  rotate_left
  · rintro w' ⟨s0, s1, s2, s3, s4, s5, s6, s7, s8, s9⟩
    go_simp
    with_reducible rfl
  rotate_left
  · simp only [Act.put, List.setIfInBounds_toArray, List.set_cons_zero, List.set_cons_succ, i64_w, i32_w]
    rfl
  refine take_ (i := 7) (N := some 22) (v := ?_) (a' := ?_) #[true, false, true, false, true, true, true, true, true, false, false, false, false, false, false, false, false] rfl rfl (by kernel_rfl) (fun _ _ _ h => h) (Or.inl ⟨by rfl, ?_⟩) hHeld ?_ ?_
  rotate_left
  · rintro w' ⟨s0, s1, s2, s3, s4, s5, s6, s7, s8, s9⟩
    go_simp
    with_reducible rfl
  rotate_left
  · simp only [Act.put, List.setIfInBounds_toArray, List.set_cons_zero, List.set_cons_succ, i64_w, i32_w]
    rfl
  refine take_ (i := 9) (N := some 24) (v := ?_) (a' := ?_) #[true, false, true, false, true, true, true, true, true, true, false, false, false, false, false, false, false] rfl rfl (by kernel_rfl) (fun _ _ _ h => h) (Or.inl ⟨by rfl, ?_⟩) hHeld ?_ ?_
  rotate_left
  · rintro w' ⟨s0, s1, s2, s3, s4, s5, s6, s7, s8, s9⟩
    go_simp
    with_reducible rfl
  rotate_left
  · simp only [Act.put, List.setIfInBounds_toArray, List.set_cons_zero, List.set_cons_succ, i64_w, i32_w]
    rfl
  refine join_ (σ := Nat) 2 #[true, true, true, true, true, true, true, true, true, true, true, true, true, true, true, false, false] (fun sg_ => [(16, .agg #[.int .i64 n, .int .i64 f, .slice A cs.length ca, .slice B ds.length cb]), (18, .agg #[.int .i64 m, .int .u8 s, .int .i64 nd]), (25, .tuple #[.agg #[.int .i64 v0, .int .i64 v1, .int .i64 v2], .int .i64 er]), (7, .pointer (some ⟨sg_, 0, none⟩)), (14, .tuple #[.agg #[.int .i64 v0, .int .i64 v1, .int .i64 v2], .int .i64 er]), (26, .agg #[.int .i64 v0, .int .i64 v1, .int .i64 v2]), (27, .int .i64 er)]) (fun sg_ w_ => Blk w_ sg_ #[.int .i64 0, .int .i64 0, .int .i64 0] 53 ∧ wd.heap.size ≤ sg_ ∧ RowKit.Below wd.heap.size wd w_) ?_ ?_
  rotate_left
  · intro hCont
    refine two_ (i := 1) (j := 14) (Ni := some 16) (Nj := some 7) #[true, true, true, false, true, true, true, true, true, true, false, false, false, false, false, false, false] #[true, false, true, false, true, true, true, true, true, true, false, false, false, false, true, false, false] rfl rfl rfl rfl (by kernel_rfl) (by decide) (by decide) (fun K hK => ?_) (fun K hK => ?_)
    · skip
      refine goes_ Try.func22 (by kernel_rfl) rfl #[.agg #[.int .i64 n, .int .i64 f, .slice A cs.length ca, .slice B ds.length cb]] (by rfl) rfl rfl (by simp only [List.map_toArray, List.map_cons, List.map_nil]; rfl) ?_
      with_reducible refine (machine_own n f A cs.length ca B ds.length cb _).mono ?_
      rintro e_ wa ⟨rfl, hb⟩
      refine ⟨_, rfl, ?_⟩
      have n0_ := Aside0.mk (below_then HB.out HB.out.size hb)
      have n1_ := Aside0.mk (HX.out.below hb)
      have n2_ := Aside0.mk (HP.out.below hb)
      have n3_ := Aside0.mk (HA.out.below hb)
      have n4_ := Aside0.mk (below_then HD.out HD.out.size hb)
      clear HB HX HP HA HD c0 c1 c2 c3 p0 p1 p2 a0 a1 a2 hb
      have HB := n0_
      have HX := n1_
      have HP := n2_
      have HA := n3_
      have HD := n4_
      clear n0_ n1_ n2_ n3_ n4_
      have c0 := HX.out.at 0 (.int .i64 n) rfl
      have c1 := HX.out.at 1 (.int .i64 f) rfl
      have c2 := HX.out.at 2 (.slice A cs.length ca) rfl
      have c3 := HX.out.at 3 (.slice B ds.length cb) rfl
      have p0 := HP.out.at 0 (.int .i64 m) rfl
      have p1 := HP.out.at 1 (.int .u8 s) rfl
      have p2 := HP.out.at 2 (.int .i64 nd) rfl
      have a0 := HA.out.at 0 (.int .i64 cpu) rfl
      have a1 := HA.out.at 1 (.int .i64 cur) rfl
      have a2 := HA.out.at 2 (.slice M lm cm) rfl
      refine hK.out _ _ ⟨HX.out.at 0 (.int .i64 n) rfl, HX.out.at 1 (.int .i64 f) rfl, HX.out.at 2 (.slice A cs.length ca) rfl, HX.out.at 3 (.slice B ds.length cb) rfl, HP.out.at 0 (.int .i64 m) rfl, HP.out.at 1 (.int .u8 s) rfl, HP.out.at 2 (.int .i64 nd) rfl, HA.out.at 0 (.int .i64 cpu) rfl, HA.out.at 1 (.int .i64 cur) rfl, HA.out.at 2 (.slice M lm cm) rfl⟩ (fun hHeld => ?_)
      clear hK K
      refine norm_ (a' := ?_) ?_ ?_
      rotate_left
      · show Act.put _ (some 16) _ = _
        simp only [Act.put, List.setIfInBounds_toArray, List.set_cons_zero, List.set_cons_succ, i64_w, i32_w]
        rfl
      refine two_ (i := 3) (j := 14) (Ni := some 18) (Nj := some 7) #[true, true, true, true, true, true, true, true, true, true, false, false, false, false, false, false, false] #[true, true, true, false, true, true, true, true, true, true, false, false, false, false, true, false, false] rfl rfl rfl rfl (by kernel_rfl) (by decide) (by decide) (fun K hK => ?_) (fun K hK => ?_)
      · skip
        refine goes_ Try.func23 (by kernel_rfl) rfl #[.agg #[.int .i64 m, .int .u8 s, .int .i64 nd]] (by rfl) rfl rfl (by simp only [List.map_toArray, List.map_cons, List.map_nil]; rfl) ?_
        with_reducible refine (messuagelaw11_rule.calls m s nd m s nd _ rfl).mono ?_
        rintro e_ wb ⟨rfl, hb⟩
        refine ⟨_, rfl, ?_⟩
        have n0_ := Aside0.mk (below_then HB.out HB.out.size hb)
        have n1_ := Aside0.mk (HX.out.below hb)
        have n2_ := Aside0.mk (HP.out.below hb)
        have n3_ := Aside0.mk (HA.out.below hb)
        have n4_ := Aside0.mk (below_then HD.out HD.out.size hb)
        clear HB HX HP HA HD c0 c1 c2 c3 p0 p1 p2 a0 a1 a2 hb
        have HB := n0_
        have HX := n1_
        have HP := n2_
        have HA := n3_
        have HD := n4_
        clear n0_ n1_ n2_ n3_ n4_
        have c0 := HX.out.at 0 (.int .i64 n) rfl
        have c1 := HX.out.at 1 (.int .i64 f) rfl
        have c2 := HX.out.at 2 (.slice A cs.length ca) rfl
        have c3 := HX.out.at 3 (.slice B ds.length cb) rfl
        have p0 := HP.out.at 0 (.int .i64 m) rfl
        have p1 := HP.out.at 1 (.int .u8 s) rfl
        have p2 := HP.out.at 2 (.int .i64 nd) rfl
        have a0 := HA.out.at 0 (.int .i64 cpu) rfl
        have a1 := HA.out.at 1 (.int .i64 cur) rfl
        have a2 := HA.out.at 2 (.slice M lm cm) rfl
        refine hK.out _ _ ⟨HX.out.at 0 (.int .i64 n) rfl, HX.out.at 1 (.int .i64 f) rfl, HX.out.at 2 (.slice A cs.length ca) rfl, HX.out.at 3 (.slice B ds.length cb) rfl, HP.out.at 0 (.int .i64 m) rfl, HP.out.at 1 (.int .u8 s) rfl, HP.out.at 2 (.int .i64 nd) rfl, HA.out.at 0 (.int .i64 cpu) rfl, HA.out.at 1 (.int .i64 cur) rfl, HA.out.at 2 (.slice M lm cm) rfl⟩ (fun hHeld => ?_)
        clear hK K
        refine norm_ (a' := ?_) ?_ ?_
        rotate_left
        · show Act.put _ (some 18) _ = _
          simp only [Act.put, List.setIfInBounds_toArray, List.set_cons_zero, List.set_cons_succ, i64_w, i32_w]
          rfl
        refine two_ (i := 10) (j := 14) (Ni := some 25) (Nj := some 7) #[true, true, true, true, true, true, true, true, true, true, true, false, false, false, false, false, false] #[true, true, true, true, true, true, true, true, true, true, false, false, false, false, true, false, false] rfl rfl rfl rfl (by kernel_rfl) (by decide) (by decide) (fun K hK => ?_) (fun K hK => ?_)
        · skip
          refine goes_ Try.func21 (by kernel_rfl) rfl #[.agg #[.int .i64 n, .int .i64 f, .slice A cs.length ca, .slice B ds.length cb], .agg #[.int .i64 m, .int .u8 s, .int .i64 nd], .int .i64 cpu, .int .i64 cur, .slice M lm cm] (by rfl) rfl rfl (by simp only [List.map_toArray, List.map_cons, List.map_nil]; rfl) ?_
          with_reducible refine (HND.out _ HB.out).mono ?_
          rintro e_ wc ⟨rfl, hb⟩
          refine ⟨_, rfl, ?_⟩
          have n0_ := Aside0.mk (below_then HB.out HB.out.size hb)
          have n1_ := Aside0.mk (HX.out.below hb)
          have n2_ := Aside0.mk (HP.out.below hb)
          have n3_ := Aside0.mk (HA.out.below hb)
          have n4_ := Aside0.mk (below_then HD.out HD.out.size hb)
          clear HB HX HP HA HD c0 c1 c2 c3 p0 p1 p2 a0 a1 a2 hb
          have HB := n0_
          have HX := n1_
          have HP := n2_
          have HA := n3_
          have HD := n4_
          clear n0_ n1_ n2_ n3_ n4_
          have c0 := HX.out.at 0 (.int .i64 n) rfl
          have c1 := HX.out.at 1 (.int .i64 f) rfl
          have c2 := HX.out.at 2 (.slice A cs.length ca) rfl
          have c3 := HX.out.at 3 (.slice B ds.length cb) rfl
          have p0 := HP.out.at 0 (.int .i64 m) rfl
          have p1 := HP.out.at 1 (.int .u8 s) rfl
          have p2 := HP.out.at 2 (.int .i64 nd) rfl
          have a0 := HA.out.at 0 (.int .i64 cpu) rfl
          have a1 := HA.out.at 1 (.int .i64 cur) rfl
          have a2 := HA.out.at 2 (.slice M lm cm) rfl
          refine hK.out _ _ ⟨HX.out.at 0 (.int .i64 n) rfl, HX.out.at 1 (.int .i64 f) rfl, HX.out.at 2 (.slice A cs.length ca) rfl, HX.out.at 3 (.slice B ds.length cb) rfl, HP.out.at 0 (.int .i64 m) rfl, HP.out.at 1 (.int .u8 s) rfl, HP.out.at 2 (.int .i64 nd) rfl, HA.out.at 0 (.int .i64 cpu) rfl, HA.out.at 1 (.int .i64 cur) rfl, HA.out.at 2 (.slice M lm cm) rfl⟩ (fun hHeld => ?_)
          clear hK K
          refine norm_ (a' := ?_) ?_ ?_
          rotate_left
          · show Act.put _ (some 25) _ = _
            simp only [Act.put, List.setIfInBounds_toArray, List.set_cons_zero, List.set_cons_succ, i64_w, i32_w]
            rfl
          refine pure_ (i := 11) (N := some 14) (v := ?_) (a' := ?_) #[true, true, true, true, true, true, true, true, true, true, true, true, false, false, false, false, false] rfl rfl (by kernel_rfl) (fun _ _ _ h => h) (Or.inl ⟨by rfl, ?_⟩) ?_ ?_
          rotate_left
          · intro w'
            go_simp
            with_reducible rfl
          rotate_left
          · simp only [Act.put, List.setIfInBounds_toArray, List.set_cons_zero, List.set_cons_succ, i64_w, i32_w]
            rfl
          refine pure_ (i := 12) (N := some 26) (v := ?_) (a' := ?_) #[true, true, true, true, true, true, true, true, true, true, true, true, true, false, false, false, false] rfl rfl (by kernel_rfl) (fun _ _ _ h => h) (Or.inl ⟨by rfl, ?_⟩) ?_ ?_
          rotate_left
          · intro w'
            go_simp
            with_reducible rfl
          rotate_left
          · simp only [Act.put, List.setIfInBounds_toArray, List.set_cons_zero, List.set_cons_succ, i64_w, i32_w]
            rfl
          refine pure_ (i := 13) (N := some 27) (v := ?_) (a' := ?_) #[true, true, true, true, true, true, true, true, true, true, true, true, true, true, false, false, false] rfl rfl (by kernel_rfl) (fun _ _ _ h => h) (Or.inl ⟨by rfl, ?_⟩) ?_ ?_
          rotate_left
          · intro w'
            go_simp
            with_reducible rfl
          rotate_left
          · simp only [Act.put, List.setIfInBounds_toArray, List.set_cons_zero, List.set_cons_succ, i64_w, i32_w]
            rfl
          refine one_ (i := 14) (N := some 7) #[true, true, true, true, true, true, true, true, true, true, true, true, true, true, true, false, false] rfl rfl (by kernel_rfl) (by decide) (fun K hK => ?_)
          refine value_ (w1 := ?_) (v := ?_) (by rfl) rfl ?_ ?_
          rotate_left 2
          · go_simp
            constructor
            · rfl
            · rfl
          have hb := below_alloc (RowKit.Below.refl wc.heap.size wc) (.cells #[.int .i64 0, .int .i64 0, .int .i64 0] 53)
          have HT := Aside0.mk (Blk.new wc #[.int .i64 0, .int .i64 0, .int .i64 0] 53)
          have HSZ := Aside0.mk HD.out.size
          have n0_ := Aside0.mk (below_then HB.out HB.out.size hb)
          have n1_ := Aside0.mk (HX.out.below hb)
          have n2_ := Aside0.mk (HP.out.below hb)
          have n3_ := Aside0.mk (HA.out.below hb)
          have n4_ := Aside0.mk (below_then HD.out HD.out.size hb)
          clear HB HX HP HA HD c0 c1 c2 c3 p0 p1 p2 a0 a1 a2 hb
          have HB := n0_
          have HX := n1_
          have HP := n2_
          have HA := n3_
          have HD := n4_
          clear n0_ n1_ n2_ n3_ n4_
          have c0 := HX.out.at 0 (.int .i64 n) rfl
          have c1 := HX.out.at 1 (.int .i64 f) rfl
          have c2 := HX.out.at 2 (.slice A cs.length ca) rfl
          have c3 := HX.out.at 3 (.slice B ds.length cb) rfl
          have p0 := HP.out.at 0 (.int .i64 m) rfl
          have p1 := HP.out.at 1 (.int .u8 s) rfl
          have p2 := HP.out.at 2 (.int .i64 nd) rfl
          have a0 := HA.out.at 0 (.int .i64 cpu) rfl
          have a1 := HA.out.at 1 (.int .i64 cur) rfl
          have a2 := HA.out.at 2 (.slice M lm cm) rfl
          refine hK.out _ _ ⟨HX.out.at 0 (.int .i64 n) rfl, HX.out.at 1 (.int .i64 f) rfl, HX.out.at 2 (.slice A cs.length ca) rfl, HX.out.at 3 (.slice B ds.length cb) rfl, HP.out.at 0 (.int .i64 m) rfl, HP.out.at 1 (.int .u8 s) rfl, HP.out.at 2 (.int .i64 nd) rfl, HA.out.at 0 (.int .i64 cpu) rfl, HA.out.at 1 (.int .i64 cur) rfl, HA.out.at 2 (.slice M lm cm) rfl⟩ (fun hHeld => ?_)
          clear hK K
          refine norm_ (a' := ?_) ?_ ?_
          rotate_left
          · show Act.put _ (some 7) _ = _
            simp only [Act.put, List.setIfInBounds_toArray, List.set_cons_zero, List.set_cons_succ, i64_w, i32_w]
            rfl
          exact norm_ (by simp only [putAll, Act.put, List.setIfInBounds_toArray, List.set_cons_zero, List.set_cons_succ]) (hCont wc.heap.size _ ⟨HT.out, HSZ.out, HD.out⟩)
        · skip
          refine value_ (w1 := ?_) (v := ?_) (by rfl) rfl ?_ ?_
          rotate_left 2
          · go_simp
            constructor
            · rfl
            · rfl
          have hb := below_alloc (RowKit.Below.refl wb.heap.size wb) (.cells #[.int .i64 0, .int .i64 0, .int .i64 0] 53)
          have HT := Aside0.mk (Blk.new wb #[.int .i64 0, .int .i64 0, .int .i64 0] 53)
          have HSZ := Aside0.mk HD.out.size
          have n0_ := Aside0.mk (below_then HB.out HB.out.size hb)
          have n1_ := Aside0.mk (HX.out.below hb)
          have n2_ := Aside0.mk (HP.out.below hb)
          have n3_ := Aside0.mk (HA.out.below hb)
          have n4_ := Aside0.mk (below_then HD.out HD.out.size hb)
          clear HB HX HP HA HD c0 c1 c2 c3 p0 p1 p2 a0 a1 a2 hb
          have HB := n0_
          have HX := n1_
          have HP := n2_
          have HA := n3_
          have HD := n4_
          clear n0_ n1_ n2_ n3_ n4_
          have c0 := HX.out.at 0 (.int .i64 n) rfl
          have c1 := HX.out.at 1 (.int .i64 f) rfl
          have c2 := HX.out.at 2 (.slice A cs.length ca) rfl
          have c3 := HX.out.at 3 (.slice B ds.length cb) rfl
          have p0 := HP.out.at 0 (.int .i64 m) rfl
          have p1 := HP.out.at 1 (.int .u8 s) rfl
          have p2 := HP.out.at 2 (.int .i64 nd) rfl
          have a0 := HA.out.at 0 (.int .i64 cpu) rfl
          have a1 := HA.out.at 1 (.int .i64 cur) rfl
          have a2 := HA.out.at 2 (.slice M lm cm) rfl
          refine hK.out _ _ ⟨HX.out.at 0 (.int .i64 n) rfl, HX.out.at 1 (.int .i64 f) rfl, HX.out.at 2 (.slice A cs.length ca) rfl, HX.out.at 3 (.slice B ds.length cb) rfl, HP.out.at 0 (.int .i64 m) rfl, HP.out.at 1 (.int .u8 s) rfl, HP.out.at 2 (.int .i64 nd) rfl, HA.out.at 0 (.int .i64 cpu) rfl, HA.out.at 1 (.int .i64 cur) rfl, HA.out.at 2 (.slice M lm cm) rfl⟩ (fun hHeld => ?_)
          clear hK K
          refine norm_ (a' := ?_) ?_ ?_
          rotate_left
          · show Act.put _ (some 7) _ = _
            simp only [Act.put, List.setIfInBounds_toArray, List.set_cons_zero, List.set_cons_succ, i64_w, i32_w]
            rfl
          refine one_ (i := 10) (N := some 25) #[true, true, true, true, true, true, true, true, true, true, true, false, false, false, true, false, false] rfl rfl (by kernel_rfl) (by decide) (fun K hK => ?_)
          refine goes_ Try.func21 (by kernel_rfl) rfl #[.agg #[.int .i64 n, .int .i64 f, .slice A cs.length ca, .slice B ds.length cb], .agg #[.int .i64 m, .int .u8 s, .int .i64 nd], .int .i64 cpu, .int .i64 cur, .slice M lm cm] (by rfl) rfl rfl (by simp only [List.map_toArray, List.map_cons, List.map_nil]; rfl) ?_
          with_reducible refine (HND.out _ HB.out).mono ?_
          rintro e_ wc ⟨rfl, hb⟩
          refine ⟨_, rfl, ?_⟩
          have n0_ := Aside0.mk (below_then HB.out HB.out.size hb)
          have n1_ := Aside0.mk (HX.out.below hb)
          have n2_ := Aside0.mk (HP.out.below hb)
          have n3_ := Aside0.mk (HA.out.below hb)
          have n4_ := Aside0.mk (below_then HD.out HD.out.size hb)
          have n5_ := Aside0.mk (HT.out.below hb)
          clear HB HX HP HA HD HT c0 c1 c2 c3 p0 p1 p2 a0 a1 a2 hb
          have HB := n0_
          have HX := n1_
          have HP := n2_
          have HA := n3_
          have HD := n4_
          have HT := n5_
          clear n0_ n1_ n2_ n3_ n4_ n5_
          have c0 := HX.out.at 0 (.int .i64 n) rfl
          have c1 := HX.out.at 1 (.int .i64 f) rfl
          have c2 := HX.out.at 2 (.slice A cs.length ca) rfl
          have c3 := HX.out.at 3 (.slice B ds.length cb) rfl
          have p0 := HP.out.at 0 (.int .i64 m) rfl
          have p1 := HP.out.at 1 (.int .u8 s) rfl
          have p2 := HP.out.at 2 (.int .i64 nd) rfl
          have a0 := HA.out.at 0 (.int .i64 cpu) rfl
          have a1 := HA.out.at 1 (.int .i64 cur) rfl
          have a2 := HA.out.at 2 (.slice M lm cm) rfl
          refine hK.out _ _ ⟨HX.out.at 0 (.int .i64 n) rfl, HX.out.at 1 (.int .i64 f) rfl, HX.out.at 2 (.slice A cs.length ca) rfl, HX.out.at 3 (.slice B ds.length cb) rfl, HP.out.at 0 (.int .i64 m) rfl, HP.out.at 1 (.int .u8 s) rfl, HP.out.at 2 (.int .i64 nd) rfl, HA.out.at 0 (.int .i64 cpu) rfl, HA.out.at 1 (.int .i64 cur) rfl, HA.out.at 2 (.slice M lm cm) rfl⟩ (fun hHeld => ?_)
          clear hK K
          refine norm_ (a' := ?_) ?_ ?_
          rotate_left
          · show Act.put _ (some 25) _ = _
            simp only [Act.put, List.setIfInBounds_toArray, List.set_cons_zero, List.set_cons_succ, i64_w, i32_w]
            rfl
          refine pure_ (i := 11) (N := some 14) (v := ?_) (a' := ?_) #[true, true, true, true, true, true, true, true, true, true, true, true, false, false, true, false, false] rfl rfl (by kernel_rfl) (fun _ _ _ h => h) (Or.inl ⟨by rfl, ?_⟩) ?_ ?_
          rotate_left
          · intro w'
            go_simp
            with_reducible rfl
          rotate_left
          · simp only [Act.put, List.setIfInBounds_toArray, List.set_cons_zero, List.set_cons_succ, i64_w, i32_w]
            rfl
          refine pure_ (i := 12) (N := some 26) (v := ?_) (a' := ?_) #[true, true, true, true, true, true, true, true, true, true, true, true, true, false, true, false, false] rfl rfl (by kernel_rfl) (fun _ _ _ h => h) (Or.inl ⟨by rfl, ?_⟩) ?_ ?_
          rotate_left
          · intro w'
            go_simp
            with_reducible rfl
          rotate_left
          · simp only [Act.put, List.setIfInBounds_toArray, List.set_cons_zero, List.set_cons_succ, i64_w, i32_w]
            rfl
          refine pure_ (i := 13) (N := some 27) (v := ?_) (a' := ?_) #[true, true, true, true, true, true, true, true, true, true, true, true, true, true, true, false, false] rfl rfl (by kernel_rfl) (fun _ _ _ h => h) (Or.inl ⟨by rfl, ?_⟩) ?_ ?_
          rotate_left
          · intro w'
            go_simp
            with_reducible rfl
          rotate_left
          · simp only [Act.put, List.setIfInBounds_toArray, List.set_cons_zero, List.set_cons_succ, i64_w, i32_w]
            rfl
          exact norm_ (by simp only [putAll, Act.put, List.setIfInBounds_toArray, List.set_cons_zero, List.set_cons_succ]) (hCont wb.heap.size _ ⟨HT.out, HSZ.out, HD.out⟩)
      · skip
        refine value_ (w1 := ?_) (v := ?_) (by rfl) rfl ?_ ?_
        rotate_left 2
        · go_simp
          constructor
          · rfl
          · rfl
        have hb := below_alloc (RowKit.Below.refl wa.heap.size wa) (.cells #[.int .i64 0, .int .i64 0, .int .i64 0] 53)
        have HT := Aside0.mk (Blk.new wa #[.int .i64 0, .int .i64 0, .int .i64 0] 53)
        have HSZ := Aside0.mk HD.out.size
        have n0_ := Aside0.mk (below_then HB.out HB.out.size hb)
        have n1_ := Aside0.mk (HX.out.below hb)
        have n2_ := Aside0.mk (HP.out.below hb)
        have n3_ := Aside0.mk (HA.out.below hb)
        have n4_ := Aside0.mk (below_then HD.out HD.out.size hb)
        clear HB HX HP HA HD c0 c1 c2 c3 p0 p1 p2 a0 a1 a2 hb
        have HB := n0_
        have HX := n1_
        have HP := n2_
        have HA := n3_
        have HD := n4_
        clear n0_ n1_ n2_ n3_ n4_
        have c0 := HX.out.at 0 (.int .i64 n) rfl
        have c1 := HX.out.at 1 (.int .i64 f) rfl
        have c2 := HX.out.at 2 (.slice A cs.length ca) rfl
        have c3 := HX.out.at 3 (.slice B ds.length cb) rfl
        have p0 := HP.out.at 0 (.int .i64 m) rfl
        have p1 := HP.out.at 1 (.int .u8 s) rfl
        have p2 := HP.out.at 2 (.int .i64 nd) rfl
        have a0 := HA.out.at 0 (.int .i64 cpu) rfl
        have a1 := HA.out.at 1 (.int .i64 cur) rfl
        have a2 := HA.out.at 2 (.slice M lm cm) rfl
        refine hK.out _ _ ⟨HX.out.at 0 (.int .i64 n) rfl, HX.out.at 1 (.int .i64 f) rfl, HX.out.at 2 (.slice A cs.length ca) rfl, HX.out.at 3 (.slice B ds.length cb) rfl, HP.out.at 0 (.int .i64 m) rfl, HP.out.at 1 (.int .u8 s) rfl, HP.out.at 2 (.int .i64 nd) rfl, HA.out.at 0 (.int .i64 cpu) rfl, HA.out.at 1 (.int .i64 cur) rfl, HA.out.at 2 (.slice M lm cm) rfl⟩ (fun hHeld => ?_)
        clear hK K
        refine norm_ (a' := ?_) ?_ ?_
        rotate_left
        · show Act.put _ (some 7) _ = _
          simp only [Act.put, List.setIfInBounds_toArray, List.set_cons_zero, List.set_cons_succ, i64_w, i32_w]
          rfl
        refine one_ (i := 3) (N := some 18) #[true, true, true, true, true, true, true, true, true, true, false, false, false, false, true, false, false] rfl rfl (by kernel_rfl) (by decide) (fun K hK => ?_)
        refine goes_ Try.func23 (by kernel_rfl) rfl #[.agg #[.int .i64 m, .int .u8 s, .int .i64 nd]] (by rfl) rfl rfl (by simp only [List.map_toArray, List.map_cons, List.map_nil]; rfl) ?_
        with_reducible refine (messuagelaw11_rule.calls m s nd m s nd _ rfl).mono ?_
        rintro e_ wb ⟨rfl, hb⟩
        refine ⟨_, rfl, ?_⟩
        have n0_ := Aside0.mk (below_then HB.out HB.out.size hb)
        have n1_ := Aside0.mk (HX.out.below hb)
        have n2_ := Aside0.mk (HP.out.below hb)
        have n3_ := Aside0.mk (HA.out.below hb)
        have n4_ := Aside0.mk (below_then HD.out HD.out.size hb)
        have n5_ := Aside0.mk (HT.out.below hb)
        clear HB HX HP HA HD HT c0 c1 c2 c3 p0 p1 p2 a0 a1 a2 hb
        have HB := n0_
        have HX := n1_
        have HP := n2_
        have HA := n3_
        have HD := n4_
        have HT := n5_
        clear n0_ n1_ n2_ n3_ n4_ n5_
        have c0 := HX.out.at 0 (.int .i64 n) rfl
        have c1 := HX.out.at 1 (.int .i64 f) rfl
        have c2 := HX.out.at 2 (.slice A cs.length ca) rfl
        have c3 := HX.out.at 3 (.slice B ds.length cb) rfl
        have p0 := HP.out.at 0 (.int .i64 m) rfl
        have p1 := HP.out.at 1 (.int .u8 s) rfl
        have p2 := HP.out.at 2 (.int .i64 nd) rfl
        have a0 := HA.out.at 0 (.int .i64 cpu) rfl
        have a1 := HA.out.at 1 (.int .i64 cur) rfl
        have a2 := HA.out.at 2 (.slice M lm cm) rfl
        refine hK.out _ _ ⟨HX.out.at 0 (.int .i64 n) rfl, HX.out.at 1 (.int .i64 f) rfl, HX.out.at 2 (.slice A cs.length ca) rfl, HX.out.at 3 (.slice B ds.length cb) rfl, HP.out.at 0 (.int .i64 m) rfl, HP.out.at 1 (.int .u8 s) rfl, HP.out.at 2 (.int .i64 nd) rfl, HA.out.at 0 (.int .i64 cpu) rfl, HA.out.at 1 (.int .i64 cur) rfl, HA.out.at 2 (.slice M lm cm) rfl⟩ (fun hHeld => ?_)
        clear hK K
        refine norm_ (a' := ?_) ?_ ?_
        rotate_left
        · show Act.put _ (some 18) _ = _
          simp only [Act.put, List.setIfInBounds_toArray, List.set_cons_zero, List.set_cons_succ, i64_w, i32_w]
          rfl
        refine one_ (i := 10) (N := some 25) #[true, true, true, true, true, true, true, true, true, true, true, false, false, false, true, false, false] rfl rfl (by kernel_rfl) (by decide) (fun K hK => ?_)
        refine goes_ Try.func21 (by kernel_rfl) rfl #[.agg #[.int .i64 n, .int .i64 f, .slice A cs.length ca, .slice B ds.length cb], .agg #[.int .i64 m, .int .u8 s, .int .i64 nd], .int .i64 cpu, .int .i64 cur, .slice M lm cm] (by rfl) rfl rfl (by simp only [List.map_toArray, List.map_cons, List.map_nil]; rfl) ?_
        with_reducible refine (HND.out _ HB.out).mono ?_
        rintro e_ wc ⟨rfl, hb⟩
        refine ⟨_, rfl, ?_⟩
        have n0_ := Aside0.mk (below_then HB.out HB.out.size hb)
        have n1_ := Aside0.mk (HX.out.below hb)
        have n2_ := Aside0.mk (HP.out.below hb)
        have n3_ := Aside0.mk (HA.out.below hb)
        have n4_ := Aside0.mk (below_then HD.out HD.out.size hb)
        have n5_ := Aside0.mk (HT.out.below hb)
        clear HB HX HP HA HD HT c0 c1 c2 c3 p0 p1 p2 a0 a1 a2 hb
        have HB := n0_
        have HX := n1_
        have HP := n2_
        have HA := n3_
        have HD := n4_
        have HT := n5_
        clear n0_ n1_ n2_ n3_ n4_ n5_
        have c0 := HX.out.at 0 (.int .i64 n) rfl
        have c1 := HX.out.at 1 (.int .i64 f) rfl
        have c2 := HX.out.at 2 (.slice A cs.length ca) rfl
        have c3 := HX.out.at 3 (.slice B ds.length cb) rfl
        have p0 := HP.out.at 0 (.int .i64 m) rfl
        have p1 := HP.out.at 1 (.int .u8 s) rfl
        have p2 := HP.out.at 2 (.int .i64 nd) rfl
        have a0 := HA.out.at 0 (.int .i64 cpu) rfl
        have a1 := HA.out.at 1 (.int .i64 cur) rfl
        have a2 := HA.out.at 2 (.slice M lm cm) rfl
        refine hK.out _ _ ⟨HX.out.at 0 (.int .i64 n) rfl, HX.out.at 1 (.int .i64 f) rfl, HX.out.at 2 (.slice A cs.length ca) rfl, HX.out.at 3 (.slice B ds.length cb) rfl, HP.out.at 0 (.int .i64 m) rfl, HP.out.at 1 (.int .u8 s) rfl, HP.out.at 2 (.int .i64 nd) rfl, HA.out.at 0 (.int .i64 cpu) rfl, HA.out.at 1 (.int .i64 cur) rfl, HA.out.at 2 (.slice M lm cm) rfl⟩ (fun hHeld => ?_)
        clear hK K
        refine norm_ (a' := ?_) ?_ ?_
        rotate_left
        · show Act.put _ (some 25) _ = _
          simp only [Act.put, List.setIfInBounds_toArray, List.set_cons_zero, List.set_cons_succ, i64_w, i32_w]
          rfl
        refine pure_ (i := 11) (N := some 14) (v := ?_) (a' := ?_) #[true, true, true, true, true, true, true, true, true, true, true, true, false, false, true, false, false] rfl rfl (by kernel_rfl) (fun _ _ _ h => h) (Or.inl ⟨by rfl, ?_⟩) ?_ ?_
        rotate_left
        · intro w'
          go_simp
          with_reducible rfl
        rotate_left
        · simp only [Act.put, List.setIfInBounds_toArray, List.set_cons_zero, List.set_cons_succ, i64_w, i32_w]
          rfl
        refine pure_ (i := 12) (N := some 26) (v := ?_) (a' := ?_) #[true, true, true, true, true, true, true, true, true, true, true, true, true, false, true, false, false] rfl rfl (by kernel_rfl) (fun _ _ _ h => h) (Or.inl ⟨by rfl, ?_⟩) ?_ ?_
        rotate_left
        · intro w'
          go_simp
          with_reducible rfl
        rotate_left
        · simp only [Act.put, List.setIfInBounds_toArray, List.set_cons_zero, List.set_cons_succ, i64_w, i32_w]
          rfl
        refine pure_ (i := 13) (N := some 27) (v := ?_) (a' := ?_) #[true, true, true, true, true, true, true, true, true, true, true, true, true, true, true, false, false] rfl rfl (by kernel_rfl) (fun _ _ _ h => h) (Or.inl ⟨by rfl, ?_⟩) ?_ ?_
        rotate_left
        · intro w'
          go_simp
          with_reducible rfl
        rotate_left
        · simp only [Act.put, List.setIfInBounds_toArray, List.set_cons_zero, List.set_cons_succ, i64_w, i32_w]
          rfl
        exact norm_ (by simp only [putAll, Act.put, List.setIfInBounds_toArray, List.set_cons_zero, List.set_cons_succ]) (hCont wa.heap.size _ ⟨HT.out, HSZ.out, HD.out⟩)
    · skip
      refine value_ (w1 := ?_) (v := ?_) (by rfl) rfl ?_ ?_
      rotate_left 2
      · go_simp
        constructor
        · rfl
        · rfl
      have hb := below_alloc (RowKit.Below.refl wd.heap.size wd) (.cells #[.int .i64 0, .int .i64 0, .int .i64 0] 53)
      have HT := Aside0.mk (Blk.new wd #[.int .i64 0, .int .i64 0, .int .i64 0] 53)
      have HSZ := Aside0.mk HD.out.size
      have n0_ := Aside0.mk (below_then HB.out HB.out.size hb)
      have n1_ := Aside0.mk (HX.out.below hb)
      have n2_ := Aside0.mk (HP.out.below hb)
      have n3_ := Aside0.mk (HA.out.below hb)
      have n4_ := Aside0.mk (below_then HD.out HD.out.size hb)
      clear HB HX HP HA HD c0 c1 c2 c3 p0 p1 p2 a0 a1 a2 hb
      have HB := n0_
      have HX := n1_
      have HP := n2_
      have HA := n3_
      have HD := n4_
      clear n0_ n1_ n2_ n3_ n4_
      have c0 := HX.out.at 0 (.int .i64 n) rfl
      have c1 := HX.out.at 1 (.int .i64 f) rfl
      have c2 := HX.out.at 2 (.slice A cs.length ca) rfl
      have c3 := HX.out.at 3 (.slice B ds.length cb) rfl
      have p0 := HP.out.at 0 (.int .i64 m) rfl
      have p1 := HP.out.at 1 (.int .u8 s) rfl
      have p2 := HP.out.at 2 (.int .i64 nd) rfl
      have a0 := HA.out.at 0 (.int .i64 cpu) rfl
      have a1 := HA.out.at 1 (.int .i64 cur) rfl
      have a2 := HA.out.at 2 (.slice M lm cm) rfl
      refine hK.out _ _ ⟨HX.out.at 0 (.int .i64 n) rfl, HX.out.at 1 (.int .i64 f) rfl, HX.out.at 2 (.slice A cs.length ca) rfl, HX.out.at 3 (.slice B ds.length cb) rfl, HP.out.at 0 (.int .i64 m) rfl, HP.out.at 1 (.int .u8 s) rfl, HP.out.at 2 (.int .i64 nd) rfl, HA.out.at 0 (.int .i64 cpu) rfl, HA.out.at 1 (.int .i64 cur) rfl, HA.out.at 2 (.slice M lm cm) rfl⟩ (fun hHeld => ?_)
      clear hK K
      refine norm_ (a' := ?_) ?_ ?_
      rotate_left
      · show Act.put _ (some 7) _ = _
        simp only [Act.put, List.setIfInBounds_toArray, List.set_cons_zero, List.set_cons_succ, i64_w, i32_w]
        rfl
      refine one_ (i := 1) (N := some 16) #[true, true, true, false, true, true, true, true, true, true, false, false, false, false, true, false, false] rfl rfl (by kernel_rfl) (by decide) (fun K hK => ?_)
      refine goes_ Try.func22 (by kernel_rfl) rfl #[.agg #[.int .i64 n, .int .i64 f, .slice A cs.length ca, .slice B ds.length cb]] (by rfl) rfl rfl (by simp only [List.map_toArray, List.map_cons, List.map_nil]; rfl) ?_
      with_reducible refine (machine_own n f A cs.length ca B ds.length cb _).mono ?_
      rintro e_ wa ⟨rfl, hb⟩
      refine ⟨_, rfl, ?_⟩
      have n0_ := Aside0.mk (below_then HB.out HB.out.size hb)
      have n1_ := Aside0.mk (HX.out.below hb)
      have n2_ := Aside0.mk (HP.out.below hb)
      have n3_ := Aside0.mk (HA.out.below hb)
      have n4_ := Aside0.mk (below_then HD.out HD.out.size hb)
      have n5_ := Aside0.mk (HT.out.below hb)
      clear HB HX HP HA HD HT c0 c1 c2 c3 p0 p1 p2 a0 a1 a2 hb
      have HB := n0_
      have HX := n1_
      have HP := n2_
      have HA := n3_
      have HD := n4_
      have HT := n5_
      clear n0_ n1_ n2_ n3_ n4_ n5_
      have c0 := HX.out.at 0 (.int .i64 n) rfl
      have c1 := HX.out.at 1 (.int .i64 f) rfl
      have c2 := HX.out.at 2 (.slice A cs.length ca) rfl
      have c3 := HX.out.at 3 (.slice B ds.length cb) rfl
      have p0 := HP.out.at 0 (.int .i64 m) rfl
      have p1 := HP.out.at 1 (.int .u8 s) rfl
      have p2 := HP.out.at 2 (.int .i64 nd) rfl
      have a0 := HA.out.at 0 (.int .i64 cpu) rfl
      have a1 := HA.out.at 1 (.int .i64 cur) rfl
      have a2 := HA.out.at 2 (.slice M lm cm) rfl
      refine hK.out _ _ ⟨HX.out.at 0 (.int .i64 n) rfl, HX.out.at 1 (.int .i64 f) rfl, HX.out.at 2 (.slice A cs.length ca) rfl, HX.out.at 3 (.slice B ds.length cb) rfl, HP.out.at 0 (.int .i64 m) rfl, HP.out.at 1 (.int .u8 s) rfl, HP.out.at 2 (.int .i64 nd) rfl, HA.out.at 0 (.int .i64 cpu) rfl, HA.out.at 1 (.int .i64 cur) rfl, HA.out.at 2 (.slice M lm cm) rfl⟩ (fun hHeld => ?_)
      clear hK K
      refine norm_ (a' := ?_) ?_ ?_
      rotate_left
      · show Act.put _ (some 16) _ = _
        simp only [Act.put, List.setIfInBounds_toArray, List.set_cons_zero, List.set_cons_succ, i64_w, i32_w]
        rfl
      refine one_ (i := 3) (N := some 18) #[true, true, true, true, true, true, true, true, true, true, false, false, false, false, true, false, false] rfl rfl (by kernel_rfl) (by decide) (fun K hK => ?_)
      refine goes_ Try.func23 (by kernel_rfl) rfl #[.agg #[.int .i64 m, .int .u8 s, .int .i64 nd]] (by rfl) rfl rfl (by simp only [List.map_toArray, List.map_cons, List.map_nil]; rfl) ?_
      with_reducible refine (messuagelaw11_rule.calls m s nd m s nd _ rfl).mono ?_
      rintro e_ wb ⟨rfl, hb⟩
      refine ⟨_, rfl, ?_⟩
      have n0_ := Aside0.mk (below_then HB.out HB.out.size hb)
      have n1_ := Aside0.mk (HX.out.below hb)
      have n2_ := Aside0.mk (HP.out.below hb)
      have n3_ := Aside0.mk (HA.out.below hb)
      have n4_ := Aside0.mk (below_then HD.out HD.out.size hb)
      have n5_ := Aside0.mk (HT.out.below hb)
      clear HB HX HP HA HD HT c0 c1 c2 c3 p0 p1 p2 a0 a1 a2 hb
      have HB := n0_
      have HX := n1_
      have HP := n2_
      have HA := n3_
      have HD := n4_
      have HT := n5_
      clear n0_ n1_ n2_ n3_ n4_ n5_
      have c0 := HX.out.at 0 (.int .i64 n) rfl
      have c1 := HX.out.at 1 (.int .i64 f) rfl
      have c2 := HX.out.at 2 (.slice A cs.length ca) rfl
      have c3 := HX.out.at 3 (.slice B ds.length cb) rfl
      have p0 := HP.out.at 0 (.int .i64 m) rfl
      have p1 := HP.out.at 1 (.int .u8 s) rfl
      have p2 := HP.out.at 2 (.int .i64 nd) rfl
      have a0 := HA.out.at 0 (.int .i64 cpu) rfl
      have a1 := HA.out.at 1 (.int .i64 cur) rfl
      have a2 := HA.out.at 2 (.slice M lm cm) rfl
      refine hK.out _ _ ⟨HX.out.at 0 (.int .i64 n) rfl, HX.out.at 1 (.int .i64 f) rfl, HX.out.at 2 (.slice A cs.length ca) rfl, HX.out.at 3 (.slice B ds.length cb) rfl, HP.out.at 0 (.int .i64 m) rfl, HP.out.at 1 (.int .u8 s) rfl, HP.out.at 2 (.int .i64 nd) rfl, HA.out.at 0 (.int .i64 cpu) rfl, HA.out.at 1 (.int .i64 cur) rfl, HA.out.at 2 (.slice M lm cm) rfl⟩ (fun hHeld => ?_)
      clear hK K
      refine norm_ (a' := ?_) ?_ ?_
      rotate_left
      · show Act.put _ (some 18) _ = _
        simp only [Act.put, List.setIfInBounds_toArray, List.set_cons_zero, List.set_cons_succ, i64_w, i32_w]
        rfl
      refine one_ (i := 10) (N := some 25) #[true, true, true, true, true, true, true, true, true, true, true, false, false, false, true, false, false] rfl rfl (by kernel_rfl) (by decide) (fun K hK => ?_)
      refine goes_ Try.func21 (by kernel_rfl) rfl #[.agg #[.int .i64 n, .int .i64 f, .slice A cs.length ca, .slice B ds.length cb], .agg #[.int .i64 m, .int .u8 s, .int .i64 nd], .int .i64 cpu, .int .i64 cur, .slice M lm cm] (by rfl) rfl rfl (by simp only [List.map_toArray, List.map_cons, List.map_nil]; rfl) ?_
      with_reducible refine (HND.out _ HB.out).mono ?_
      rintro e_ wc ⟨rfl, hb⟩
      refine ⟨_, rfl, ?_⟩
      have n0_ := Aside0.mk (below_then HB.out HB.out.size hb)
      have n1_ := Aside0.mk (HX.out.below hb)
      have n2_ := Aside0.mk (HP.out.below hb)
      have n3_ := Aside0.mk (HA.out.below hb)
      have n4_ := Aside0.mk (below_then HD.out HD.out.size hb)
      have n5_ := Aside0.mk (HT.out.below hb)
      clear HB HX HP HA HD HT c0 c1 c2 c3 p0 p1 p2 a0 a1 a2 hb
      have HB := n0_
      have HX := n1_
      have HP := n2_
      have HA := n3_
      have HD := n4_
      have HT := n5_
      clear n0_ n1_ n2_ n3_ n4_ n5_
      have c0 := HX.out.at 0 (.int .i64 n) rfl
      have c1 := HX.out.at 1 (.int .i64 f) rfl
      have c2 := HX.out.at 2 (.slice A cs.length ca) rfl
      have c3 := HX.out.at 3 (.slice B ds.length cb) rfl
      have p0 := HP.out.at 0 (.int .i64 m) rfl
      have p1 := HP.out.at 1 (.int .u8 s) rfl
      have p2 := HP.out.at 2 (.int .i64 nd) rfl
      have a0 := HA.out.at 0 (.int .i64 cpu) rfl
      have a1 := HA.out.at 1 (.int .i64 cur) rfl
      have a2 := HA.out.at 2 (.slice M lm cm) rfl
      refine hK.out _ _ ⟨HX.out.at 0 (.int .i64 n) rfl, HX.out.at 1 (.int .i64 f) rfl, HX.out.at 2 (.slice A cs.length ca) rfl, HX.out.at 3 (.slice B ds.length cb) rfl, HP.out.at 0 (.int .i64 m) rfl, HP.out.at 1 (.int .u8 s) rfl, HP.out.at 2 (.int .i64 nd) rfl, HA.out.at 0 (.int .i64 cpu) rfl, HA.out.at 1 (.int .i64 cur) rfl, HA.out.at 2 (.slice M lm cm) rfl⟩ (fun hHeld => ?_)
      clear hK K
      refine norm_ (a' := ?_) ?_ ?_
      rotate_left
      · show Act.put _ (some 25) _ = _
        simp only [Act.put, List.setIfInBounds_toArray, List.set_cons_zero, List.set_cons_succ, i64_w, i32_w]
        rfl
      refine pure_ (i := 11) (N := some 14) (v := ?_) (a' := ?_) #[true, true, true, true, true, true, true, true, true, true, true, true, false, false, true, false, false] rfl rfl (by kernel_rfl) (fun _ _ _ h => h) (Or.inl ⟨by rfl, ?_⟩) ?_ ?_
      rotate_left
      · intro w'
        go_simp
        with_reducible rfl
      rotate_left
      · simp only [Act.put, List.setIfInBounds_toArray, List.set_cons_zero, List.set_cons_succ, i64_w, i32_w]
        rfl
      refine pure_ (i := 12) (N := some 26) (v := ?_) (a' := ?_) #[true, true, true, true, true, true, true, true, true, true, true, true, true, false, true, false, false] rfl rfl (by kernel_rfl) (fun _ _ _ h => h) (Or.inl ⟨by rfl, ?_⟩) ?_ ?_
      rotate_left
      · intro w'
        go_simp
        with_reducible rfl
      rotate_left
      · simp only [Act.put, List.setIfInBounds_toArray, List.set_cons_zero, List.set_cons_succ, i64_w, i32_w]
        rfl
      refine pure_ (i := 13) (N := some 27) (v := ?_) (a' := ?_) #[true, true, true, true, true, true, true, true, true, true, true, true, true, true, true, false, false] rfl rfl (by kernel_rfl) (fun _ _ _ h => h) (Or.inl ⟨by rfl, ?_⟩) ?_ ?_
      rotate_left
      · intro w'
        go_simp
        with_reducible rfl
      rotate_left
      · simp only [Act.put, List.setIfInBounds_toArray, List.set_cons_zero, List.set_cons_succ, i64_w, i32_w]
        rfl
      exact norm_ (by simp only [putAll, Act.put, List.setIfInBounds_toArray, List.set_cons_zero, List.set_cons_succ]) (hCont wd.heap.size _ ⟨HT.out, HSZ.out, HD.out⟩)
  rintro tb wj ⟨hT, hS, hD⟩
  have HT := Aside0.mk hT
  have HSB := Aside0.mk hS
  have HD2 := Aside0.mk hD
  clear hT hS hD
  have t0 := HT.out.at 0 (.int .i64 0) rfl
  have t1 := HT.out.at 1 (.int .i64 0) rfl
  have t2 := HT.out.at 2 (.int .i64 0) rfl
  have g0 := HT.out.fz 0
  have g1 := HT.out.fz 1
  have g2 := HT.out.fz 2
  have hHeld : wj.cell? ⟨w.heap.size, 0, none⟩ = some (.int .i64 n) ∧ wj.cell? ⟨w.heap.size, 1, none⟩ = some (.int .i64 f) ∧ wj.cell? ⟨w.heap.size, 2, none⟩ = some (.slice A cs.length ca) ∧ wj.cell? ⟨w.heap.size, 3, none⟩ = some (.slice B ds.length cb) ∧ wj.cell? ⟨w.heap.size + 1, 0, none⟩ = some (.int .i64 m) ∧ wj.cell? ⟨w.heap.size + 1, 1, none⟩ = some (.int .u8 s) ∧ wj.cell? ⟨w.heap.size + 1, 2, none⟩ = some (.int .i64 nd) ∧ wj.cell? ⟨w.heap.size + 1 + 1, 0, none⟩ = some (.int .i64 cpu) ∧ wj.cell? ⟨w.heap.size + 1 + 1, 1, none⟩ = some (.int .i64 cur) ∧ wj.cell? ⟨w.heap.size + 1 + 1, 2, none⟩ = some (.slice M lm cm) := ⟨(HX.out.below HD2.out).at 0 (.int .i64 n) rfl, (HX.out.below HD2.out).at 1 (.int .i64 f) rfl, (HX.out.below HD2.out).at 2 (.slice A cs.length ca) rfl, (HX.out.below HD2.out).at 3 (.slice B ds.length cb) rfl, (HP.out.below HD2.out).at 0 (.int .i64 m) rfl, (HP.out.below HD2.out).at 1 (.int .u8 s) rfl, (HP.out.below HD2.out).at 2 (.int .i64 nd) rfl, (HA.out.below HD2.out).at 0 (.int .i64 cpu) rfl, (HA.out.below HD2.out).at 1 (.int .i64 cur) rfl, (HA.out.below HD2.out).at 2 (.slice M lm cm) rfl⟩
  refine norm_ (a' := ?_) ?_ ?_
  rotate_left
  · simp only [putAll, Act.put, List.setIfInBounds_toArray, List.set_cons_zero, List.set_cons_succ]
    rfl
  refine last_ (i := 15) (N := none) #[true, true, true, true, true, true, true, true, true, true, true, true, true, true, true, true, false] rfl rfl (by kernel_rfl) (by decide) (fun K hK => ?_)
  refine skip_ (w1 := ?_) (by rfl) rfl ?_ ?_
  rotate_left
  · go_simp
    rfl
  refine hK.out _ _ ?_
  clear hK K
  refine pure_ (i := 16) (N := some 8) (v := ?_) (a' := ?_) #[true, true, true, true, true, true, true, true, true, true, true, true, true, true, true, true, true] rfl rfl (by kernel_rfl) (fun _ _ _ h => h) (Or.inl ⟨by rfl, ?_⟩) ?_ ?_
  rotate_left
  · intro w'
    go_simp
    with_reducible rfl
  rotate_left
  · simp only [Act.put, List.setIfInBounds_toArray, List.set_cons_zero, List.set_cons_succ, i64_w, i32_w]
    rfl
  refine done_ (by kernel_rfl) ?_
  have hb_ := below_put3 HD2.out HSB.out (.int .i64 v0) (.int .i64 v1) (.int .i64 v2)
  have HT3 := Aside0.mk (HT.out.put3 (.int .i64 v0) (.int .i64 v1) (.int .i64 v2))
  clear HT t0 t1 t2 g0 g1 g2 hHeld
  have n0_ := Aside0.mk (below_then HB.out HB.out.size hb_)
  have n1_ := Aside0.mk (HX.out.below hb_)
  have n2_ := Aside0.mk (HP.out.below hb_)
  have n3_ := Aside0.mk (HA.out.below hb_)
  clear HB HX HP HA c0 c1 c2 c3 p0 p1 p2 a0 a1 a2 hb_
  have HB := n0_
  have HX := n1_
  have HP := n2_
  have HA := n3_
  clear n0_ n1_ n2_ n3_
  have c0 := HX.out.at 0 (.int .i64 n) rfl
  have c1 := HX.out.at 1 (.int .i64 f) rfl
  have c2 := HX.out.at 2 (.slice A cs.length ca) rfl
  have c3 := HX.out.at 3 (.slice B ds.length cb) rfl
  have p0 := HP.out.at 0 (.int .i64 m) rfl
  have p1 := HP.out.at 1 (.int .u8 s) rfl
  have p2 := HP.out.at 2 (.int .i64 nd) rfl
  have a0 := HA.out.at 0 (.int .i64 cpu) rfl
  have a1 := HA.out.at 1 (.int .i64 cur) rfl
  have a2 := HA.out.at 2 (.slice M lm cm) rfl
  clear HD2 HSB HD
  have HT := HT3
  clear HT3
  generalize ((wj.setCell ⟨tb, 0, none⟩ (.int .i64 v0)).setCell ⟨tb, 1, none⟩ (.int .i64 v1)).setCell ⟨tb, 2, none⟩ (.int .i64 v2) = wz at *
  rcases chV_cases hs HV.out with ⟨er', hr, e0, e5⟩ | ⟨k, a, y, rfl, h1, h8, hak, hck, hpol, hf, hdl, hrow, hr⟩
  · obtain ⟨rfl, rfl, rfl, rfl⟩ : v0 = 0 ∧ v1 = 0 ∧ v2 = 0 ∧ er = er' := by simpa using hr
    have b1 : (er != 0) = true := by simpa using e0
    have b2 : (er != 5) = true := by simpa using e5
    clear HV
    go_wp2_with (go_at_call 25; (with_reducible refine (chooses_own _).mono ?_); rintro e_ w5 ⟨rfl, hb⟩; have n0_ := Aside0.mk (below_then HB.out HB.out.size hb); have n1_ := Aside0.mk (HX.out.below hb); have n2_ := Aside0.mk (HP.out.below hb); have n3_ := Aside0.mk (HA.out.below hb); have n4_ := Aside0.mk (HT.out.below hb); clear HB HX HP HA HT c0 c1 c2 c3 p0 p1 p2 a0 a1 a2 hb; have HB := n0_; have HX := n1_; have HP := n2_; have HA := n3_; have HT := n4_; clear n0_ n1_ n2_ n3_ n4_; have c0 := HX.out.at 0 (.int .i64 n) rfl; have c1 := HX.out.at 1 (.int .i64 f) rfl; have c2 := HX.out.at 2 (.slice A cs.length ca) rfl; have c3 := HX.out.at 3 (.slice B ds.length cb) rfl; have p0 := HP.out.at 0 (.int .i64 m) rfl; have p1 := HP.out.at 1 (.int .u8 s) rfl; have p2 := HP.out.at 2 (.int .i64 nd) rfl; have a0 := HA.out.at 0 (.int .i64 cpu) rfl; have a1 := HA.out.at 1 (.int .i64 cur) rfl; have a2 := HA.out.at 2 (.slice M lm cm) rfl)
    go_ret
    exact ⟨rfl, HB.out⟩
  · obtain ⟨pm, hpm⟩ : ∃ pm, permR m s k = pm := ⟨_, rfl⟩
    have HPM := Aside0.mk (show ∀ W : World, Calls Try.prog 26 #[.agg #[.int .i64 m, .int .u8 s, .int .i64 nd], .int .i64 k] W (fun e w' => e = .returned (.int .u8 pm) ∧ RowKit.Below W.heap.size W w') from fun W => messuageref10_Permitted.calls 20 m s nd k pm W (by rw [rperm_f m s nd k h8, hpm]))
    have HHA := Aside0.mk (show ∀ (x : Int) (W : World), Calls Try.prog 27 #[.int .u8 pm, .int .i64 x] W (fun e w' => e = .returned (.bool (hasB pm x)) ∧ Drawn0 W w') from fun x W => messuageref01_Has.calls pm x _ W (has_f _ _))
    rw [hpm] at hr
    have b1 : decide ((a : Int) < 0) = false := decide_eq_false (by omega)
    have b2 : decide (k ≤ a) = false := decide_eq_false (by omega)
    have a00 : (0 : Int) ≤ (a : Int) := by omega
    have aI : (a : Int) < (k : Int) := by omega
    have HFAR := Aside0.mk hf
    obtain ⟨ad, A0, cc, rfl, p0_, hcc, hrd⟩ := at_L1 HC3.out (a : Int) a00 (by rw [hdl]; omega)
    rw [Int.toNat_natCast] at p0_
    rw [rdl] at p0_ hcc hrd
    rw [hrow] at p0_ hcc hrd
    obtain ⟨rb, ro, rfl, hcell⟩ := reads_plain hrd (by omega)
    have HCE := Aside0.mk (show ∀ j : Nat, j < k → w.cell? ⟨rb, ro + j, none⟩ = some (.int .i64 (dd ds a j)) from fun j hj => by have := hcell j hj; rw [← rdl, rd_dd] at this; exact this)
    have HP0 := Aside0.mk (pw_cell_below HB.out p0_)
    have p0_ := HP0.out
    rw [hdl] at HX c3
    obtain ⟨o, ho⟩ : ∃ o, nearR may (inL pm (ordL ds a k)) = o := ⟨_, rfl⟩
    rw [ho] at hr
    clear hpm hck hpol hf hdl hrow HV hcell hcc hrd HC3 HND
    cases o with
    | none =>
      obtain ⟨rfl, rfl, rfl, rfl⟩ : v0 = 0 ∧ v1 = (a : Int) ∧ v2 = y ∧ er = 5 := by simpa using hr
      have HNO := Aside0.mk (near_in_none ds a k HFAR.out pm may ho)
      clear hr ho
      have t0 := HT.out.at 0 (.int .i64 0) rfl
      have t1 := HT.out.at 1 (.int .i64 a) rfl
      go_upto_region 9 with (first | (go_at_call 25; (with_reducible refine (chooses_own _).mono ?_); rintro e_ w5 ⟨rfl, hb⟩; have n0_ := Aside0.mk (below_then HB.out HB.out.size hb); have n1_ := Aside0.mk (HX.out.below hb); have n2_ := Aside0.mk (HP.out.below hb); have n3_ := Aside0.mk (HA.out.below hb); have n4_ := Aside0.mk (HT.out.below hb); have n5_ := Aside0.mk (pw_cell_below hb HP0.out); clear HB HX HP HA HT HP0 c0 c1 c2 c3 p0 p1 p2 a0 a1 a2 t0 t1 p0_ hb; have HB := n0_; have HX := n1_; have HP := n2_; have HA := n3_; have HT := n4_; have HP0 := n5_; clear n0_ n1_ n2_ n3_ n4_ n5_; have c0 := HX.out.at 0 (.int .i64 k) rfl; have c1 := HX.out.at 1 (.int .i64 f) rfl; have c2 := HX.out.at 2 (.slice A cs.length ca) rfl; have c3 := HX.out.at 3 (.slice (some ad) k cb) rfl; have p0 := HP.out.at 0 (.int .i64 m) rfl; have p1 := HP.out.at 1 (.int .u8 s) rfl; have p2 := HP.out.at 2 (.int .i64 nd) rfl; have a0 := HA.out.at 0 (.int .i64 cpu) rfl; have a1 := HA.out.at 1 (.int .i64 cur) rfl; have a2 := HA.out.at 2 (.slice M lm cm) rfl; have t0 := HT.out.at 0 (.int .i64 0) rfl; have t1 := HT.out.at 1 (.int .i64 a) rfl; have p0_ := HP0.out) | (go_at_call 26; (with_reducible refine (HPM.out _).mono ?_); rintro e_ w6 ⟨rfl, hb⟩; have n0_ := Aside0.mk (below_then HB.out HB.out.size hb); have n1_ := Aside0.mk (HX.out.below hb); have n2_ := Aside0.mk (HP.out.below hb); have n3_ := Aside0.mk (HA.out.below hb); have n4_ := Aside0.mk (HT.out.below hb); have n5_ := Aside0.mk (pw_cell_below hb HP0.out); clear HB HX HP HA HT HP0 c0 c1 c2 c3 p0 p1 p2 a0 a1 a2 t0 t1 p0_ hb; have HB := n0_; have HX := n1_; have HP := n2_; have HA := n3_; have HT := n4_; have HP0 := n5_; clear n0_ n1_ n2_ n3_ n4_ n5_; have c0 := HX.out.at 0 (.int .i64 k) rfl; have c1 := HX.out.at 1 (.int .i64 f) rfl; have c2 := HX.out.at 2 (.slice A cs.length ca) rfl; have c3 := HX.out.at 3 (.slice (some ad) k cb) rfl; have p0 := HP.out.at 0 (.int .i64 m) rfl; have p1 := HP.out.at 1 (.int .u8 s) rfl; have p2 := HP.out.at 2 (.int .i64 nd) rfl; have a0 := HA.out.at 0 (.int .i64 cpu) rfl; have a1 := HA.out.at 1 (.int .i64 cur) rfl; have a2 := HA.out.at 2 (.slice M lm cm) rfl; have t0 := HT.out.at 0 (.int .i64 0) rfl; have t1 := HT.out.at 1 (.int .i64 a) rfl; have p0_ := HP0.out))
      have H0 := Aside0.mk (show RelW k w6 (.int .i64 0) w6 from ⟨0, rfl, Nat.zero_le _, RowKit.Below.refl _ _⟩)
      go_wp2_with fail
      clear c0 c1 c2 c3 p0 p1 p2 a0 a1 a2 t0 t1 p0_ HP0 HP HPM
      go_loopw [11] (fun v11 wr => RelW k w6 v11 wr) (fun v11 _ => k - (intOf v11).toNat)
      case atStart => exact H0.out
      case round =>
        clear H0
        obtain ⟨i, rfl, hi, hB⟩ := hrel
        have HBW := Aside0.mk hB
        clear hB
        have c0 := (HX.out.below HBW.out).at 0 (.int .i64 k) rfl
        have a2 := (HA.out.below HBW.out).at 2 (.slice M lm cm) rfl
        have t0 := (HT.out.below HBW.out).at 0 (.int .i64 0) rfl
        by_cases hik : i < k
        · have hib : decide (i < k) = true := decide_eq_true hik
          have i0 : (0 : Int) ≤ (i : Int) := by omega
          have iI : (i : Int) < (k : Int) := by omega
          obtain ⟨hh, hhv⟩ : ∃ hh, hasB pm (i : Int) = hh := ⟨_, rfl⟩
          have HHI := Aside0.mk (show ∀ W : World, Calls Try.prog 27 #[.int .u8 pm, .int .i64 i] W (fun e w' => e = .returned (.bool hh) ∧ Drawn0 W w') from fun W => by have := HHA.out (i : Int) W; rw [hhv] at this; exact this)
          have HHV := Aside0.mk hhv
          clear hhv
          cases hh with
          | false =>
            go_wp2_with (go_at_call 27; (with_reducible refine (HHI.out _).mono ?_); rintro e_ w8 ⟨rfl, hb0⟩; have n0_ := Aside0.mk (below_then HBW.out HBW.out.size hb0.below); clear HBW hb0 c0 a2 t0; have HBW := n0_; clear n0_; have c0 := (HX.out.below HBW.out).at 0 (.int .i64 k) rfl; have a2 := (HA.out.below HBW.out).at 2 (.slice M lm cm) rfl; have t0 := (HT.out.below HBW.out).at 0 (.int .i64 0) rfl)
            go_roundw
            case rel => exact ⟨i + 1, by go_num, by omega, HBW.out⟩
            case measure => simp [intOf]; omega
          | true =>
            by_cases him : i < lm
            · obtain ⟨adm, rfl, mi⟩ := Kd.at_bool (Kd.C_below HCM.out (below_then HB.out HB.out.size HBW.out)) (i : Int) i0 (by omega)
              rw [Int.toNat_natCast] at mi
              have b7 : decide (lm ≤ i) = false := decide_eq_false (by omega)
              have imI : (i : Int) < (lm : Int) := by omega
              obtain ⟨mb, hmv⟩ : ∃ mb, rdOf false may (i : Int) = mb := ⟨_, rfl⟩
              rw [hmv] at mi
              have HOK := Aside0.mk (show bothB pm may (i : Int) = mb by unfold bothB okB; rw [HHV.out, hmv, HLM.out, decide_eq_true imI]; rfl)
              clear hmv
              cases mb with
              | false =>
                go_wp2_with (go_at_call 27; (with_reducible refine (HHI.out _).mono ?_); rintro e_ w8 ⟨rfl, hb0⟩; have n0_ := Aside0.mk (below_then HBW.out HBW.out.size hb0.below); have n1_ := pw_cell_below hb0.below mi; clear HBW hb0 c0 a2 t0 mi; have HBW := n0_; clear n0_; have mi := n1_; clear n1_; have c0 := (HX.out.below HBW.out).at 0 (.int .i64 k) rfl; have a2 := (HA.out.below HBW.out).at 2 (.slice (some adm) lm cm) rfl; have t0 := (HT.out.below HBW.out).at 0 (.int .i64 0) rfl)
                go_roundw
                case rel => exact ⟨i + 1, by go_num, by omega, HBW.out⟩
                case measure => simp [intOf]; omega
              | true => exact absurd HOK.out (by rw [HNO.out i hik]; simp)
            · have b7 : decide (lm ≤ i) = true := decide_eq_true (by omega)
              go_wp2_with (go_at_call 27; (with_reducible refine (HHI.out _).mono ?_); rintro e_ w8 ⟨rfl, hb0⟩; have n0_ := Aside0.mk (below_then HBW.out HBW.out.size hb0.below); clear HBW hb0 c0 a2 t0; have HBW := n0_; clear n0_; have c0 := (HX.out.below HBW.out).at 0 (.int .i64 k) rfl; have a2 := (HA.out.below HBW.out).at 2 (.slice M lm cm) rfl; have t0 := (HT.out.below HBW.out).at 0 (.int .i64 0) rfl)
              go_roundw
              case rel => exact ⟨i + 1, by go_num, by omega, HBW.out⟩
              case measure => simp [intOf]; omega
        · obtain rfl : i = k := by omega
          have hib : decide (i < i) = false := decide_eq_false hik
          go_wp2_with fail
          go_ret
          exact ⟨rfl, below_then HB.out HB.out.size HBW.out⟩
    | some x =>
      obtain ⟨q, rfl, hqk, hqy, hqb⟩ := near_in_some ds a k HFAR.out pm may x ho
      obtain ⟨rfl, rfl, rfl, rfl⟩ : v0 = (q : Int) ∧ v1 = (a : Int) ∧ v2 = y ∧ er = 0 := by simpa using hr
      have HNO := Aside0.mk hqb
      have hqy2 := hqy
      unfold bothB okB at hqy2
      rw [Bool.and_eq_true, Bool.and_eq_true, HLM.out] at hqy2
      have HHQ := Aside0.mk (show ∀ (W : World), Calls Try.prog 27 #[.int .u8 pm, .int .i64 q] W (fun e w' => e = .returned (.bool true) ∧ Drawn0 W w') from fun W => by have := HHA.out (q : Int) W; rw [hqy2.1] at this; exact this)
      have qI : (q : Int) < (lm : Int) := of_decide_eq_true hqy2.2.1
      have qIk : (q : Int) < (k : Int) := by omega
      have q0 : (0 : Int) ≤ (q : Int) := by omega
      have b3 : decide ((q : Int) < 0) = false := decide_eq_false (by omega)
      have b4 : decide (lm ≤ q) = false := decide_eq_false (by omega)
      obtain ⟨adm, rfl, m1⟩ := Kd.at_bool HCM.out (q : Int) q0 qI
      rw [Int.toNat_natCast, hqy2.2.2] at m1
      have HM1 := Aside0.mk (pw_cell_below HB.out m1)
      have m1 := HM1.out
      clear hr ho hqy hqy2 hqb
      have t0 := HT.out.at 0 (.int .i64 q) rfl
      have t1 := HT.out.at 1 (.int .i64 a) rfl
      go_upto_region 9 with (first | (go_at_call 25; (with_reducible refine (chooses_own _).mono ?_); rintro e_ w5 ⟨rfl, hb⟩; have n0_ := Aside0.mk (below_then HB.out HB.out.size hb); have n1_ := Aside0.mk (HX.out.below hb); have n2_ := Aside0.mk (HP.out.below hb); have n3_ := Aside0.mk (HA.out.below hb); have n4_ := Aside0.mk (HT.out.below hb); have n5_ := Aside0.mk (pw_cell_below hb HP0.out); have n6_ := Aside0.mk (pw_cell_below hb HM1.out); clear HB HX HP HA HT HP0 HM1 c0 c1 c2 c3 p0 p1 p2 a0 a1 a2 t0 t1 p0_ m1 hb; have HB := n0_; have HX := n1_; have HP := n2_; have HA := n3_; have HT := n4_; have HP0 := n5_; have HM1 := n6_; clear n0_ n1_ n2_ n3_ n4_ n5_ n6_; have c0 := HX.out.at 0 (.int .i64 k) rfl; have c1 := HX.out.at 1 (.int .i64 f) rfl; have c2 := HX.out.at 2 (.slice A cs.length ca) rfl; have c3 := HX.out.at 3 (.slice (some ad) k cb) rfl; have p0 := HP.out.at 0 (.int .i64 m) rfl; have p1 := HP.out.at 1 (.int .u8 s) rfl; have p2 := HP.out.at 2 (.int .i64 nd) rfl; have a0 := HA.out.at 0 (.int .i64 cpu) rfl; have a1 := HA.out.at 1 (.int .i64 cur) rfl; have a2 := HA.out.at 2 (.slice (some adm) lm cm) rfl; have t0 := HT.out.at 0 (.int .i64 q) rfl; have t1 := HT.out.at 1 (.int .i64 a) rfl; have p0_ := HP0.out; have m1 := HM1.out) | (go_at_call 26; (with_reducible refine (HPM.out _).mono ?_); rintro e_ w6 ⟨rfl, hb⟩; have n0_ := Aside0.mk (below_then HB.out HB.out.size hb); have n1_ := Aside0.mk (HX.out.below hb); have n2_ := Aside0.mk (HP.out.below hb); have n3_ := Aside0.mk (HA.out.below hb); have n4_ := Aside0.mk (HT.out.below hb); have n5_ := Aside0.mk (pw_cell_below hb HP0.out); have n6_ := Aside0.mk (pw_cell_below hb HM1.out); clear HB HX HP HA HT HP0 HM1 c0 c1 c2 c3 p0 p1 p2 a0 a1 a2 t0 t1 p0_ m1 hb; have HB := n0_; have HX := n1_; have HP := n2_; have HA := n3_; have HT := n4_; have HP0 := n5_; have HM1 := n6_; clear n0_ n1_ n2_ n3_ n4_ n5_ n6_; have c0 := HX.out.at 0 (.int .i64 k) rfl; have c1 := HX.out.at 1 (.int .i64 f) rfl; have c2 := HX.out.at 2 (.slice A cs.length ca) rfl; have c3 := HX.out.at 3 (.slice (some ad) k cb) rfl; have p0 := HP.out.at 0 (.int .i64 m) rfl; have p1 := HP.out.at 1 (.int .u8 s) rfl; have p2 := HP.out.at 2 (.int .i64 nd) rfl; have a0 := HA.out.at 0 (.int .i64 cpu) rfl; have a1 := HA.out.at 1 (.int .i64 cur) rfl; have a2 := HA.out.at 2 (.slice (some adm) lm cm) rfl; have t0 := HT.out.at 0 (.int .i64 q) rfl; have t1 := HT.out.at 1 (.int .i64 a) rfl; have p0_ := HP0.out; have m1 := HM1.out) | (go_at_call 27; (with_reducible refine (HHQ.out _).mono ?_); rintro e_ w7 ⟨rfl, hb0⟩; have hb := hb0.below; clear hb0; have n0_ := Aside0.mk (below_then HB.out HB.out.size hb); have n1_ := Aside0.mk (HX.out.below hb); have n2_ := Aside0.mk (HP.out.below hb); have n3_ := Aside0.mk (HA.out.below hb); have n4_ := Aside0.mk (HT.out.below hb); have n5_ := Aside0.mk (pw_cell_below hb HP0.out); have n6_ := Aside0.mk (pw_cell_below hb HM1.out); clear HB HX HP HA HT HP0 HM1 c0 c1 c2 c3 p0 p1 p2 a0 a1 a2 t0 t1 p0_ m1 hb; have HB := n0_; have HX := n1_; have HP := n2_; have HA := n3_; have HT := n4_; have HP0 := n5_; have HM1 := n6_; clear n0_ n1_ n2_ n3_ n4_ n5_ n6_; have c0 := HX.out.at 0 (.int .i64 k) rfl; have c1 := HX.out.at 1 (.int .i64 f) rfl; have c2 := HX.out.at 2 (.slice A cs.length ca) rfl; have c3 := HX.out.at 3 (.slice (some ad) k cb) rfl; have p0 := HP.out.at 0 (.int .i64 m) rfl; have p1 := HP.out.at 1 (.int .u8 s) rfl; have p2 := HP.out.at 2 (.int .i64 nd) rfl; have a0 := HA.out.at 0 (.int .i64 cpu) rfl; have a1 := HA.out.at 1 (.int .i64 cur) rfl; have a2 := HA.out.at 2 (.slice (some adm) lm cm) rfl; have t0 := HT.out.at 0 (.int .i64 q) rfl; have t1 := HT.out.at 1 (.int .i64 a) rfl; have p0_ := HP0.out; have m1 := HM1.out))
      have H0 := Aside0.mk (show RelW k w7 (.int .i64 0) w7 from ⟨0, rfl, Nat.zero_le _, RowKit.Below.refl _ _⟩)
      go_wp2_with fail
      clear c0 c1 c2 c3 p0 p1 p2 a0 a1 a2 t0 t1 p0_ m1 HP0 HP HPM
      go_loopw [11] (fun v11 wr => RelW k w7 v11 wr) (fun v11 _ => k - (intOf v11).toNat)
      case atStart => exact H0.out
      case round =>
        clear H0
        obtain ⟨i, rfl, hi, hB⟩ := hrel
        have HBW := Aside0.mk hB
        clear hB
        have c0 := (HX.out.below HBW.out).at 0 (.int .i64 k) rfl
        have a2 := (HA.out.below HBW.out).at 2 (.slice (some adm) lm cm) rfl
        have t0 := (HT.out.below HBW.out).at 0 (.int .i64 q) rfl
        by_cases hik : i < k
        · have hib : decide (i < k) = true := decide_eq_true hik
          have i0 : (0 : Int) ≤ (i : Int) := by omega
          have iI : (i : Int) < (k : Int) := by omega
          obtain ⟨hh, hhv⟩ : ∃ hh, hasB pm (i : Int) = hh := ⟨_, rfl⟩
          have HHI := Aside0.mk (show ∀ W : World, Calls Try.prog 27 #[.int .u8 pm, .int .i64 i] W (fun e w' => e = .returned (.bool hh) ∧ Drawn0 W w') from fun W => by have := HHA.out (i : Int) W; rw [hhv] at this; exact this)
          have HHV := Aside0.mk hhv
          clear hhv
          cases hh with
          | false =>
            go_wp2_with (go_at_call 27; (with_reducible refine (HHI.out _).mono ?_); rintro e_ w8 ⟨rfl, hb0⟩; have n0_ := Aside0.mk (below_then HBW.out HBW.out.size hb0.below); clear HBW hb0 c0 a2 t0; have HBW := n0_; clear n0_; have c0 := (HX.out.below HBW.out).at 0 (.int .i64 k) rfl; have a2 := (HA.out.below HBW.out).at 2 (.slice (some adm) lm cm) rfl; have t0 := (HT.out.below HBW.out).at 0 (.int .i64 q) rfl)
            go_roundw
            case rel => exact ⟨i + 1, by go_num, by omega, HBW.out⟩
            case measure => simp [intOf]; omega
          | true =>
            by_cases him : i < lm
            · obtain ⟨adm_, hadm, mi⟩ := Kd.at_bool (Kd.C_below HCM.out (below_then HB.out HB.out.size HBW.out)) (i : Int) i0 (by omega)
              obtain rfl : adm = adm_ := Option.some.inj hadm
              clear hadm
              rw [Int.toNat_natCast] at mi
              have b7 : decide (lm ≤ i) = false := decide_eq_false (by omega)
              have imI : (i : Int) < (lm : Int) := by omega
              obtain ⟨mb, hmv⟩ : ∃ mb, rdOf false may (i : Int) = mb := ⟨_, rfl⟩
              rw [hmv] at mi
              have HOK := Aside0.mk (show bothB pm may (i : Int) = mb by unfold bothB okB; rw [HHV.out, hmv, HLM.out, decide_eq_true imI]; rfl)
              clear hmv
              cases mb with
              | false =>
                go_wp2_with (go_at_call 27; (with_reducible refine (HHI.out _).mono ?_); rintro e_ w8 ⟨rfl, hb0⟩; have n0_ := Aside0.mk (below_then HBW.out HBW.out.size hb0.below); have n1_ := pw_cell_below hb0.below mi; clear HBW hb0 c0 a2 t0 mi; have HBW := n0_; clear n0_; have mi := n1_; clear n1_; have c0 := (HX.out.below HBW.out).at 0 (.int .i64 k) rfl; have a2 := (HA.out.below HBW.out).at 2 (.slice (some adm) lm cm) rfl; have t0 := (HT.out.below HBW.out).at 0 (.int .i64 q) rfl)
                go_roundw
                case rel => exact ⟨i + 1, by go_num, by omega, HBW.out⟩
                case measure => simp [intOf]; omega
              | true =>
                have di := pw_cell_below (below_then HB.out HB.out.size HBW.out) (HCE.out i hik)
                have dq := pw_cell_below (below_then HB.out HB.out.size HBW.out) (HCE.out q hqk)
                obtain ⟨di_, hdi⟩ : ∃ d, dd ds a i = d := ⟨_, rfl⟩
                obtain ⟨dq_, hdq⟩ : ∃ d, dd ds a q = d := ⟨_, rfl⟩
                have hle := HNO.out i hik HOK.out
                rw [hdi, hdq] at hle
                rw [hdi] at di
                rw [hdq] at dq
                have HDI := Aside0.mk hdi
                have HDQ := Aside0.mk hdq
                clear hdi hdq
                have d1 : decide (di_ < dq_) = false := decide_eq_false (by omega)
                by_cases hde : di_ = dq_
                · subst hde
                  have d2 : (di_ == di_) = true := by simp
                  have d3 : decide (i < q) = false := decide_eq_false (by omega)
                  clear hle
                  go_upto_region 13 with (go_at_call 27; (with_reducible refine (HHI.out _).mono ?_); rintro e_ w8 ⟨rfl, hb0⟩; have n0_ := Aside0.mk (below_then HBW.out HBW.out.size hb0.below); have n1_ := pw_cell_below hb0.below mi; clear HBW hb0 c0 a2 t0 mi; have HBW := n0_; clear n0_; have mi := n1_; clear n1_; have c0 := (HX.out.below HBW.out).at 0 (.int .i64 k) rfl; have a2 := (HA.out.below HBW.out).at 2 (.slice (some adm) lm cm) rfl; have t0 := (HT.out.below HBW.out).at 0 (.int .i64 q) rfl; have n2_ := pw_cell_below (below_then HB.out HB.out.size HBW.out) (HCE.out i hik); have n3_ := pw_cell_below (below_then HB.out HB.out.size HBW.out) (HCE.out q hqk); rw [HDI.out] at n2_; rw [HDQ.out] at n3_; clear di dq; have di := n2_; have dq := n3_; clear n2_ n3_)
                  refine start_ (n := 32) (S := fun w' => w'.cell? ⟨tb, 0, none⟩ = some (.int .i64 q) ∧ w'.cell? ⟨rb, ro + i, none⟩ = some (.int .i64 di_) ∧ w'.cell? ⟨rb, ro + q, none⟩ = some (.int .i64 di_)) (ds := []) #[false, false, false, false, false, false, false, false, false, false, false, false, false, false, false, false, false, false, false, false, false, false, false, false, false, false, false, false, false, false, false, false] (by kernel_rfl) rfl rfl ⟨t0, di, dq⟩ (fun hHeld => ?_)
                  have n0_ := Aside0.mk (below_drew HBW.out)
                  clear HBW t0 c0 a2 di dq mi
                  generalize w8.drew = wd at *
                  have HBW := n0_
                  clear n0_
                  refine pure_ (i := 0) (N := some 117) (v := ?_) (a' := ?_) #[true, false, false, false, false, false, false, false, false, false, false, false, false, false, false, false, false, false, false, false, false, false, false, false, false, false, false, false, false, false, false, false] rfl rfl (by kernel_rfl) (fun _ _ _ h => h) (Or.inl ⟨by rfl, ?_⟩) ?_ ?_
                  rotate_left
                  · intro w'
                    go_simp
                    with_reducible rfl
                  rotate_left
                  · simp only [Act.put, List.setIfInBounds_toArray, List.set_cons_zero, List.set_cons_succ, i64_w, i32_w]
                    rfl
                  refine pure_ (i := 1) (N := some 118) (v := ?_) (a' := ?_) #[true, true, false, false, false, false, false, false, false, false, false, false, false, false, false, false, false, false, false, false, false, false, false, false, false, false, false, false, false, false, false, false] rfl rfl (by kernel_rfl) (fun _ _ _ h => h) (Or.inl ⟨by rfl, ?_⟩) ?_ ?_
                  rotate_left
                  · intro w'
                    go_simp
                    with_reducible rfl
                  rotate_left
                  · simp only [Act.put, List.setIfInBounds_toArray, List.set_cons_zero, List.set_cons_succ, i64_w, i32_w]
                    rfl
                  refine pure_ (i := 2) (N := some 119) (v := ?_) (a' := ?_) #[true, true, true, false, false, false, false, false, false, false, false, false, false, false, false, false, false, false, false, false, false, false, false, false, false, false, false, false, false, false, false, false] rfl rfl (by kernel_rfl) (fun _ _ _ h => h) (Or.inl ⟨by rfl, ?_⟩) ?_ ?_
                  rotate_left
                  · intro w'
                    go_simp
                    with_reducible rfl
                  rotate_left
                  · simp only [Act.put, List.setIfInBounds_toArray, List.set_cons_zero, List.set_cons_succ, i64_w, i32_w]
                    rfl
                  refine pure_ (i := 3) (N := some 120) (v := ?_) (a' := ?_) #[true, true, true, true, false, false, false, false, false, false, false, false, false, false, false, false, false, false, false, false, false, false, false, false, false, false, false, false, false, false, false, false] rfl rfl (by kernel_rfl) (fun _ _ _ h => h) (Or.inl ⟨by rfl, ?_⟩) ?_ ?_
                  rotate_left
                  · intro w'
                    go_simp
                    with_reducible rfl
                  rotate_left
                  · simp only [Act.put, List.setIfInBounds_toArray, List.set_cons_zero, List.set_cons_succ, i64_w, i32_w]
                    rfl
                  refine pure_ (i := 4) (N := some 121) (v := ?_) (a' := ?_) #[true, true, true, true, true, false, false, false, false, false, false, false, false, false, false, false, false, false, false, false, false, false, false, false, false, false, false, false, false, false, false, false] rfl rfl (by kernel_rfl) (fun _ _ _ h => h) (Or.inl ⟨by rfl, ?_⟩) ?_ ?_
                  rotate_left
                  · intro w'
                    go_simp
                    with_reducible rfl
                  rotate_left
                  · simp only [Act.put, List.setIfInBounds_toArray, List.set_cons_zero, List.set_cons_succ, i64_w, i32_w]
                    rfl
                  refine pure_ (i := 5) (N := some 122) (v := ?_) (a' := ?_) #[true, true, true, true, true, true, false, false, false, false, false, false, false, false, false, false, false, false, false, false, false, false, false, false, false, false, false, false, false, false, false, false] rfl rfl (by kernel_rfl) (fun _ _ _ h => h) (Or.inl ⟨by rfl, ?_⟩) ?_ ?_
                  rotate_left
                  · intro w'
                    go_simp
                    with_reducible rfl
                  rotate_left
                  · simp only [Act.put, List.setIfInBounds_toArray, List.set_cons_zero, List.set_cons_succ, i64_w, i32_w]
                    rfl
                  refine pure_ (i := 7) (N := some 124) (v := ?_) (a' := ?_) #[true, true, true, true, true, true, false, true, false, false, false, false, false, false, false, false, false, false, false, false, false, false, false, false, false, false, false, false, false, false, false, false] rfl rfl (by kernel_rfl) (fun _ _ _ h => h) (Or.inl ⟨by rfl, ?_⟩) ?_ ?_
                  rotate_left
                  · intro w'
                    go_simp
                    with_reducible rfl
                  rotate_left
                  · simp only [Act.put, List.setIfInBounds_toArray, List.set_cons_zero, List.set_cons_succ, i64_w, i32_w]
                    rfl
                  refine pure_ (i := 8) (N := some 125) (v := ?_) (a' := ?_) #[true, true, true, true, true, true, false, true, true, false, false, false, false, false, false, false, false, false, false, false, false, false, false, false, false, false, false, false, false, false, false, false] rfl rfl (by kernel_rfl) (fun _ _ _ h => h) (Or.inl ⟨by rfl, ?_⟩) ?_ ?_
                  rotate_left
                  · intro w'
                    go_simp
                    with_reducible rfl
                  rotate_left
                  · simp only [Act.put, List.setIfInBounds_toArray, List.set_cons_zero, List.set_cons_succ, i64_w, i32_w]
                    rfl
                  refine take_ (i := 6) (N := some 123) (v := ?_) (a' := ?_) #[true, true, true, true, true, true, true, true, true, false, false, false, false, false, false, false, false, false, false, false, false, false, false, false, false, false, false, false, false, false, false, false] rfl rfl (by kernel_rfl) (fun _ _ _ h => h) (Or.inl ⟨by rfl, ?_⟩) hHeld ?_ ?_
                  rotate_left
                  · rintro w' ⟨s0, s1, s2⟩
                    go_simp
                    with_reducible rfl
                  rotate_left
                  · simp only [Act.put, List.setIfInBounds_toArray, List.set_cons_zero, List.set_cons_succ, i64_w, i32_w]
                    rfl
                  refine take_ (i := 9) (N := some 126) (v := ?_) (a' := ?_) #[true, true, true, true, true, true, true, true, true, true, false, false, false, false, false, false, false, false, false, false, false, false, false, false, false, false, false, false, false, false, false, false] rfl rfl (by kernel_rfl) (fun _ _ _ h => h) (Or.inl ⟨by rfl, ?_⟩) hHeld ?_ ?_
                  rotate_left
                  · rintro w' ⟨s0, s1, s2⟩
                    go_simp
                    with_reducible rfl
                  rotate_left
                  · simp only [Act.put, List.setIfInBounds_toArray, List.set_cons_zero, List.set_cons_succ, i64_w, i32_w]
                    rfl
                  refine pure_ (i := 10) (N := some 127) (v := ?_) (a' := ?_) #[true, true, true, true, true, true, true, true, true, true, true, false, false, false, false, false, false, false, false, false, false, false, false, false, false, false, false, false, false, false, false, false] rfl rfl (by kernel_rfl) (fun _ _ _ h => h) (Or.inl ⟨by rfl, ?_⟩) ?_ ?_
                  rotate_left
                  · intro w'
                    go_simp
                    with_reducible rfl
                  rotate_left
                  · simp only [Act.put, List.setIfInBounds_toArray, List.set_cons_zero, List.set_cons_succ, i64_w, i32_w]
                    rfl
                  refine take_ (i := 11) (N := some 128) (v := ?_) (a' := ?_) #[true, true, true, true, true, true, true, true, true, true, true, true, false, false, false, false, false, false, false, false, false, false, false, false, false, false, false, false, false, false, false, false] rfl rfl (by kernel_rfl) (fun _ _ _ h => h) (Or.inl ⟨by rfl, ?_⟩) hHeld ?_ ?_
                  rotate_left
                  · rintro w' ⟨s0, s1, s2⟩
                    go_simp
                    with_reducible rfl
                  rotate_left
                  · simp only [Act.put, List.setIfInBounds_toArray, List.set_cons_zero, List.set_cons_succ, i64_w, i32_w]
                    rfl
                  refine pure_ (i := 12) (N := some 129) (v := ?_) (a' := ?_) #[true, true, true, true, true, true, true, true, true, true, true, true, true, false, false, false, false, false, false, false, false, false, false, false, false, false, false, false, false, false, false, false] rfl rfl (by kernel_rfl) (fun _ _ _ h => h) (Or.inl ⟨by rfl, ?_⟩) ?_ ?_
                  rotate_left
                  · intro w'
                    go_simp
                    with_reducible rfl
                  rotate_left
                  · simp only [Act.put, List.setIfInBounds_toArray, List.set_cons_zero, List.set_cons_succ, i64_w, i32_w]
                    rfl
                  refine pure_ (i := 13) (N := some 130) (v := ?_) (a' := ?_) #[true, true, true, true, true, true, true, true, true, true, true, true, true, true, false, false, false, false, false, false, false, false, false, false, false, false, false, false, false, false, false, false] rfl rfl (by kernel_rfl) (fun _ _ _ h => h) (Or.inl ⟨by rfl, ?_⟩) ?_ ?_
                  rotate_left
                  · intro w'
                    go_simp
                    with_reducible rfl
                  rotate_left
                  · simp only [Act.put, List.setIfInBounds_toArray, List.set_cons_zero, List.set_cons_succ, i64_w, i32_w]
                    rfl
                  refine pure_ (i := 14) (N := some 131) (v := ?_) (a' := ?_) #[true, true, true, true, true, true, true, true, true, true, true, true, true, true, true, false, false, false, false, false, false, false, false, false, false, false, false, false, false, false, false, false] rfl rfl (by kernel_rfl) (fun _ _ _ h => h) (Or.inl ⟨by rfl, ?_⟩) ?_ ?_
                  rotate_left
                  · intro w'
                    go_simp
                    with_reducible rfl
                  rotate_left
                  · simp only [Act.put, List.setIfInBounds_toArray, List.set_cons_zero, List.set_cons_succ, i64_w, i32_w]
                    rfl
                  refine pure_ (i := 15) (N := some 132) (v := ?_) (a' := ?_) #[true, true, true, true, true, true, true, true, true, true, true, true, true, true, true, true, false, false, false, false, false, false, false, false, false, false, false, false, false, false, false, false] rfl rfl (by kernel_rfl) (fun _ _ _ h => h) (Or.inl ⟨by rfl, ?_⟩) ?_ ?_
                  rotate_left
                  · intro w'
                    go_simp
                    with_reducible rfl
                  rotate_left
                  · simp only [Act.put, List.setIfInBounds_toArray, List.set_cons_zero, List.set_cons_succ, i64_w, i32_w]
                    rfl
                  refine pure_ (i := 16) (N := some 133) (v := ?_) (a' := ?_) #[true, true, true, true, true, true, true, true, true, true, true, true, true, true, true, true, true, false, false, false, false, false, false, false, false, false, false, false, false, false, false, false] rfl rfl (by kernel_rfl) (fun _ _ _ h => h) (Or.inl ⟨by rfl, ?_⟩) ?_ ?_
                  rotate_left
                  · intro w'
                    go_simp
                    with_reducible rfl
                  rotate_left
                  · simp only [Act.put, List.setIfInBounds_toArray, List.set_cons_zero, List.set_cons_succ, i64_w, i32_w]
                    rfl
                  refine pure_ (i := 17) (N := some 134) (v := ?_) (a' := ?_) #[true, true, true, true, true, true, true, true, true, true, true, true, true, true, true, true, true, true, false, false, false, false, false, false, false, false, false, false, false, false, false, false] rfl rfl (by kernel_rfl) (fun _ _ _ h => h) (Or.inl ⟨by rfl, ?_⟩) ?_ ?_
                  rotate_left
                  · intro w'
                    go_simp
                    with_reducible rfl
                  rotate_left
                  · simp only [Act.put, List.setIfInBounds_toArray, List.set_cons_zero, List.set_cons_succ, i64_w, i32_w]
                    rfl
                  refine pure_ (i := 19) (N := some 136) (v := ?_) (a' := ?_) #[true, true, true, true, true, true, true, true, true, true, true, true, true, true, true, true, true, true, false, true, false, false, false, false, false, false, false, false, false, false, false, false] rfl rfl (by kernel_rfl) (fun _ _ _ h => h) (Or.inl ⟨by rfl, ?_⟩) ?_ ?_
                  rotate_left
                  · intro w'
                    go_simp
                    with_reducible rfl
                  rotate_left
                  · simp only [Act.put, List.setIfInBounds_toArray, List.set_cons_zero, List.set_cons_succ, i64_w, i32_w]
                    rfl
                  refine pure_ (i := 20) (N := some 137) (v := ?_) (a' := ?_) #[true, true, true, true, true, true, true, true, true, true, true, true, true, true, true, true, true, true, false, true, true, false, false, false, false, false, false, false, false, false, false, false] rfl rfl (by kernel_rfl) (fun _ _ _ h => h) (Or.inl ⟨by rfl, ?_⟩) ?_ ?_
                  rotate_left
                  · intro w'
                    go_simp
                    with_reducible rfl
                  rotate_left
                  · simp only [Act.put, List.setIfInBounds_toArray, List.set_cons_zero, List.set_cons_succ, i64_w, i32_w]
                    rfl
                  refine take_ (i := 18) (N := some 135) (v := ?_) (a' := ?_) #[true, true, true, true, true, true, true, true, true, true, true, true, true, true, true, true, true, true, true, true, true, false, false, false, false, false, false, false, false, false, false, false] rfl rfl (by kernel_rfl) (fun _ _ _ h => h) (Or.inl ⟨by rfl, ?_⟩) hHeld ?_ ?_
                  rotate_left
                  · rintro w' ⟨s0, s1, s2⟩
                    go_simp
                    with_reducible rfl
                  rotate_left
                  · simp only [Act.put, List.setIfInBounds_toArray, List.set_cons_zero, List.set_cons_succ, i64_w, i32_w]
                    rfl
                  refine take_ (i := 21) (N := some 138) (v := ?_) (a' := ?_) #[true, true, true, true, true, true, true, true, true, true, true, true, true, true, true, true, true, true, true, true, true, true, false, false, false, false, false, false, false, false, false, false] rfl rfl (by kernel_rfl) (fun _ _ _ h => h) (Or.inl ⟨by rfl, ?_⟩) hHeld ?_ ?_
                  rotate_left
                  · rintro w' ⟨s0, s1, s2⟩
                    go_simp
                    with_reducible rfl
                  rotate_left
                  · simp only [Act.put, List.setIfInBounds_toArray, List.set_cons_zero, List.set_cons_succ, i64_w, i32_w]
                    rfl
                  refine pure_ (i := 22) (N := some 139) (v := ?_) (a' := ?_) #[true, true, true, true, true, true, true, true, true, true, true, true, true, true, true, true, true, true, true, true, true, true, true, false, false, false, false, false, false, false, false, false] rfl rfl (by kernel_rfl) (fun _ _ _ h => h) (Or.inl ⟨by rfl, ?_⟩) ?_ ?_
                  rotate_left
                  · intro w'
                    go_simp
                    with_reducible rfl
                  rotate_left
                  · simp only [Act.put, List.setIfInBounds_toArray, List.set_cons_zero, List.set_cons_succ, i64_w, i32_w]
                    rfl
                  refine take_ (i := 23) (N := some 140) (v := ?_) (a' := ?_) #[true, true, true, true, true, true, true, true, true, true, true, true, true, true, true, true, true, true, true, true, true, true, true, true, false, false, false, false, false, false, false, false] rfl rfl (by kernel_rfl) (fun _ _ _ h => h) (Or.inl ⟨by rfl, ?_⟩) hHeld ?_ ?_
                  rotate_left
                  · rintro w' ⟨s0, s1, s2⟩
                    go_simp
                    with_reducible rfl
                  rotate_left
                  · simp only [Act.put, List.setIfInBounds_toArray, List.set_cons_zero, List.set_cons_succ, i64_w, i32_w]
                    rfl
                  refine pure_ (i := 24) (N := some 141) (v := ?_) (a' := ?_) #[true, true, true, true, true, true, true, true, true, true, true, true, true, true, true, true, true, true, true, true, true, true, true, true, true, false, false, false, false, false, false, false] rfl rfl (by kernel_rfl) (fun _ _ _ h => h) (Or.inl ⟨by rfl, ?_⟩) ?_ ?_
                  rotate_left
                  · intro w'
                    go_simp
                    with_reducible rfl
                  rotate_left
                  · simp only [Act.put, List.setIfInBounds_toArray, List.set_cons_zero, List.set_cons_succ, i64_w, i32_w]
                    rfl
                  refine pure_ (i := 25) (N := some 142) (v := ?_) (a' := ?_) #[true, true, true, true, true, true, true, true, true, true, true, true, true, true, true, true, true, true, true, true, true, true, true, true, true, true, false, false, false, false, false, false] rfl rfl (by kernel_rfl) (fun _ _ _ h => h) (Or.inl ⟨by rfl, ?_⟩) ?_ ?_
                  rotate_left
                  · intro w'
                    go_simp
                    with_reducible rfl
                  rotate_left
                  · simp only [Act.put, List.setIfInBounds_toArray, List.set_cons_zero, List.set_cons_succ, i64_w, i32_w]
                    rfl
                  refine pure_ (i := 26) (N := some 143) (v := ?_) (a' := ?_) #[true, true, true, true, true, true, true, true, true, true, true, true, true, true, true, true, true, true, true, true, true, true, true, true, true, true, true, false, false, false, false, false] rfl rfl (by kernel_rfl) (fun _ _ _ h => h) (Or.inl ⟨by rfl, ?_⟩) ?_ ?_
                  rotate_left
                  · intro w'
                    go_simp
                    with_reducible rfl
                  rotate_left
                  · simp only [Act.put, List.setIfInBounds_toArray, List.set_cons_zero, List.set_cons_succ, i64_w, i32_w]
                    rfl
                  refine pure_ (i := 27) (N := some 144) (v := ?_) (a' := ?_) #[true, true, true, true, true, true, true, true, true, true, true, true, true, true, true, true, true, true, true, true, true, true, true, true, true, true, true, true, false, false, false, false] rfl rfl (by kernel_rfl) (fun _ _ _ h => h) (Or.inl ⟨by rfl, ?_⟩) ?_ ?_
                  rotate_left
                  · intro w'
                    go_simp
                    with_reducible rfl
                  rotate_left
                  · simp only [Act.put, List.setIfInBounds_toArray, List.set_cons_zero, List.set_cons_succ, i64_w, i32_w]
                    rfl
                  refine take_ (i := 28) (N := some 145) (v := ?_) (a' := ?_) #[true, true, true, true, true, true, true, true, true, true, true, true, true, true, true, true, true, true, true, true, true, true, true, true, true, true, true, true, true, false, false, false] rfl rfl (by kernel_rfl) (fun _ _ _ h => h) (Or.inl ⟨by rfl, ?_⟩) hHeld ?_ ?_
                  rotate_left
                  · rintro w' ⟨s0, s1, s2⟩
                    go_simp
                    with_reducible rfl
                  rotate_left
                  · simp only [Act.put, List.setIfInBounds_toArray, List.set_cons_zero, List.set_cons_succ, i64_w, i32_w]
                    rfl
                  refine pure_ (i := 29) (N := some 146) (v := ?_) (a' := ?_) #[true, true, true, true, true, true, true, true, true, true, true, true, true, true, true, true, true, true, true, true, true, true, true, true, true, true, true, true, true, true, false, false] rfl rfl (by kernel_rfl) (fun _ _ _ h => h) (Or.inl ⟨by rfl, ?_⟩) ?_ ?_
                  rotate_left
                  · intro w'
                    go_simp
                    with_reducible rfl
                  rotate_left
                  · simp only [Act.put, List.setIfInBounds_toArray, List.set_cons_zero, List.set_cons_succ, i64_w, i32_w]
                    rfl
                  refine pure_ (i := 30) (N := some 147) (v := ?_) (a' := ?_) #[true, true, true, true, true, true, true, true, true, true, true, true, true, true, true, true, true, true, true, true, true, true, true, true, true, true, true, true, true, true, true, false] rfl rfl (by kernel_rfl) (fun _ _ _ h => h) (Or.inl ⟨by rfl, ?_⟩) ?_ ?_
                  rotate_left
                  · intro w'
                    go_simp
                    with_reducible rfl
                  rotate_left
                  · simp only [Act.put, List.setIfInBounds_toArray, List.set_cons_zero, List.set_cons_succ, i64_w, i32_w]
                    rfl
                  refine pure_ (i := 31) (N := some 148) (v := ?_) (a' := ?_) #[true, true, true, true, true, true, true, true, true, true, true, true, true, true, true, true, true, true, true, true, true, true, true, true, true, true, true, true, true, true, true, true] rfl rfl (by kernel_rfl) (fun _ _ _ h => h) (Or.inl ⟨by rfl, ?_⟩) ?_ ?_
                  rotate_left
                  · intro w'
                    go_simp
                    with_reducible rfl
                  rotate_left
                  · simp only [Act.put, List.setIfInBounds_toArray, List.set_cons_zero, List.set_cons_succ, i64_w, i32_w]
                    rfl
                  refine done_ (by kernel_rfl) ?_
                  go_wp2_with fail
                  go_roundw
                  case rel => exact ⟨i + 1, by go_num, by omega, HBW.out⟩
                  case measure => simp [intOf]; omega
                · have d2 : (di_ == dq_) = false := by simpa using hde
                  clear hle
                  go_upto_region 13 with (go_at_call 27; (with_reducible refine (HHI.out _).mono ?_); rintro e_ w8 ⟨rfl, hb0⟩; have n0_ := Aside0.mk (below_then HBW.out HBW.out.size hb0.below); have n1_ := pw_cell_below hb0.below mi; clear HBW hb0 c0 a2 t0 mi; have HBW := n0_; clear n0_; have mi := n1_; clear n1_; have c0 := (HX.out.below HBW.out).at 0 (.int .i64 k) rfl; have a2 := (HA.out.below HBW.out).at 2 (.slice (some adm) lm cm) rfl; have t0 := (HT.out.below HBW.out).at 0 (.int .i64 q) rfl; have n2_ := pw_cell_below (below_then HB.out HB.out.size HBW.out) (HCE.out i hik); have n3_ := pw_cell_below (below_then HB.out HB.out.size HBW.out) (HCE.out q hqk); rw [HDI.out] at n2_; rw [HDQ.out] at n3_; clear di dq; have di := n2_; have dq := n3_; clear n2_ n3_)
                  refine start_ (n := 32) (S := fun w' => w'.cell? ⟨tb, 0, none⟩ = some (.int .i64 q) ∧ w'.cell? ⟨rb, ro + i, none⟩ = some (.int .i64 di_) ∧ w'.cell? ⟨rb, ro + q, none⟩ = some (.int .i64 dq_)) (ds := []) #[false, false, false, false, false, false, false, false, false, false, false, false, false, false, false, false, false, false, false, false, false, false, false, false, false, false, false, false, false, false, false, false] (by kernel_rfl) rfl rfl ⟨t0, di, dq⟩ (fun hHeld => ?_)
                  have n0_ := Aside0.mk (below_drew HBW.out)
                  clear HBW t0 c0 a2 di dq mi
                  generalize w8.drew = wd at *
                  have HBW := n0_
                  clear n0_
                  refine pure_ (i := 0) (N := some 117) (v := ?_) (a' := ?_) #[true, false, false, false, false, false, false, false, false, false, false, false, false, false, false, false, false, false, false, false, false, false, false, false, false, false, false, false, false, false, false, false] rfl rfl (by kernel_rfl) (fun _ _ _ h => h) (Or.inl ⟨by rfl, ?_⟩) ?_ ?_
                  rotate_left
                  · intro w'
                    go_simp
                    with_reducible rfl
                  rotate_left
                  · simp only [Act.put, List.setIfInBounds_toArray, List.set_cons_zero, List.set_cons_succ, i64_w, i32_w]
                    rfl
                  refine pure_ (i := 1) (N := some 118) (v := ?_) (a' := ?_) #[true, true, false, false, false, false, false, false, false, false, false, false, false, false, false, false, false, false, false, false, false, false, false, false, false, false, false, false, false, false, false, false] rfl rfl (by kernel_rfl) (fun _ _ _ h => h) (Or.inl ⟨by rfl, ?_⟩) ?_ ?_
                  rotate_left
                  · intro w'
                    go_simp
                    with_reducible rfl
                  rotate_left
                  · simp only [Act.put, List.setIfInBounds_toArray, List.set_cons_zero, List.set_cons_succ, i64_w, i32_w]
                    rfl
                  refine pure_ (i := 2) (N := some 119) (v := ?_) (a' := ?_) #[true, true, true, false, false, false, false, false, false, false, false, false, false, false, false, false, false, false, false, false, false, false, false, false, false, false, false, false, false, false, false, false] rfl rfl (by kernel_rfl) (fun _ _ _ h => h) (Or.inl ⟨by rfl, ?_⟩) ?_ ?_
                  rotate_left
                  · intro w'
                    go_simp
                    with_reducible rfl
                  rotate_left
                  · simp only [Act.put, List.setIfInBounds_toArray, List.set_cons_zero, List.set_cons_succ, i64_w, i32_w]
                    rfl
                  refine pure_ (i := 3) (N := some 120) (v := ?_) (a' := ?_) #[true, true, true, true, false, false, false, false, false, false, false, false, false, false, false, false, false, false, false, false, false, false, false, false, false, false, false, false, false, false, false, false] rfl rfl (by kernel_rfl) (fun _ _ _ h => h) (Or.inl ⟨by rfl, ?_⟩) ?_ ?_
                  rotate_left
                  · intro w'
                    go_simp
                    with_reducible rfl
                  rotate_left
                  · simp only [Act.put, List.setIfInBounds_toArray, List.set_cons_zero, List.set_cons_succ, i64_w, i32_w]
                    rfl
                  refine pure_ (i := 4) (N := some 121) (v := ?_) (a' := ?_) #[true, true, true, true, true, false, false, false, false, false, false, false, false, false, false, false, false, false, false, false, false, false, false, false, false, false, false, false, false, false, false, false] rfl rfl (by kernel_rfl) (fun _ _ _ h => h) (Or.inl ⟨by rfl, ?_⟩) ?_ ?_
                  rotate_left
                  · intro w'
                    go_simp
                    with_reducible rfl
                  rotate_left
                  · simp only [Act.put, List.setIfInBounds_toArray, List.set_cons_zero, List.set_cons_succ, i64_w, i32_w]
                    rfl
                  refine pure_ (i := 5) (N := some 122) (v := ?_) (a' := ?_) #[true, true, true, true, true, true, false, false, false, false, false, false, false, false, false, false, false, false, false, false, false, false, false, false, false, false, false, false, false, false, false, false] rfl rfl (by kernel_rfl) (fun _ _ _ h => h) (Or.inl ⟨by rfl, ?_⟩) ?_ ?_
                  rotate_left
                  · intro w'
                    go_simp
                    with_reducible rfl
                  rotate_left
                  · simp only [Act.put, List.setIfInBounds_toArray, List.set_cons_zero, List.set_cons_succ, i64_w, i32_w]
                    rfl
                  refine pure_ (i := 7) (N := some 124) (v := ?_) (a' := ?_) #[true, true, true, true, true, true, false, true, false, false, false, false, false, false, false, false, false, false, false, false, false, false, false, false, false, false, false, false, false, false, false, false] rfl rfl (by kernel_rfl) (fun _ _ _ h => h) (Or.inl ⟨by rfl, ?_⟩) ?_ ?_
                  rotate_left
                  · intro w'
                    go_simp
                    with_reducible rfl
                  rotate_left
                  · simp only [Act.put, List.setIfInBounds_toArray, List.set_cons_zero, List.set_cons_succ, i64_w, i32_w]
                    rfl
                  refine pure_ (i := 8) (N := some 125) (v := ?_) (a' := ?_) #[true, true, true, true, true, true, false, true, true, false, false, false, false, false, false, false, false, false, false, false, false, false, false, false, false, false, false, false, false, false, false, false] rfl rfl (by kernel_rfl) (fun _ _ _ h => h) (Or.inl ⟨by rfl, ?_⟩) ?_ ?_
                  rotate_left
                  · intro w'
                    go_simp
                    with_reducible rfl
                  rotate_left
                  · simp only [Act.put, List.setIfInBounds_toArray, List.set_cons_zero, List.set_cons_succ, i64_w, i32_w]
                    rfl
                  refine take_ (i := 6) (N := some 123) (v := ?_) (a' := ?_) #[true, true, true, true, true, true, true, true, true, false, false, false, false, false, false, false, false, false, false, false, false, false, false, false, false, false, false, false, false, false, false, false] rfl rfl (by kernel_rfl) (fun _ _ _ h => h) (Or.inl ⟨by rfl, ?_⟩) hHeld ?_ ?_
                  rotate_left
                  · rintro w' ⟨s0, s1, s2⟩
                    go_simp
                    with_reducible rfl
                  rotate_left
                  · simp only [Act.put, List.setIfInBounds_toArray, List.set_cons_zero, List.set_cons_succ, i64_w, i32_w]
                    rfl
                  refine take_ (i := 9) (N := some 126) (v := ?_) (a' := ?_) #[true, true, true, true, true, true, true, true, true, true, false, false, false, false, false, false, false, false, false, false, false, false, false, false, false, false, false, false, false, false, false, false] rfl rfl (by kernel_rfl) (fun _ _ _ h => h) (Or.inl ⟨by rfl, ?_⟩) hHeld ?_ ?_
                  rotate_left
                  · rintro w' ⟨s0, s1, s2⟩
                    go_simp
                    with_reducible rfl
                  rotate_left
                  · simp only [Act.put, List.setIfInBounds_toArray, List.set_cons_zero, List.set_cons_succ, i64_w, i32_w]
                    rfl
                  refine pure_ (i := 10) (N := some 127) (v := ?_) (a' := ?_) #[true, true, true, true, true, true, true, true, true, true, true, false, false, false, false, false, false, false, false, false, false, false, false, false, false, false, false, false, false, false, false, false] rfl rfl (by kernel_rfl) (fun _ _ _ h => h) (Or.inl ⟨by rfl, ?_⟩) ?_ ?_
                  rotate_left
                  · intro w'
                    go_simp
                    with_reducible rfl
                  rotate_left
                  · simp only [Act.put, List.setIfInBounds_toArray, List.set_cons_zero, List.set_cons_succ, i64_w, i32_w]
                    rfl
                  refine take_ (i := 11) (N := some 128) (v := ?_) (a' := ?_) #[true, true, true, true, true, true, true, true, true, true, true, true, false, false, false, false, false, false, false, false, false, false, false, false, false, false, false, false, false, false, false, false] rfl rfl (by kernel_rfl) (fun _ _ _ h => h) (Or.inl ⟨by rfl, ?_⟩) hHeld ?_ ?_
                  rotate_left
                  · rintro w' ⟨s0, s1, s2⟩
                    go_simp
                    with_reducible rfl
                  rotate_left
                  · simp only [Act.put, List.setIfInBounds_toArray, List.set_cons_zero, List.set_cons_succ, i64_w, i32_w]
                    rfl
                  refine pure_ (i := 12) (N := some 129) (v := ?_) (a' := ?_) #[true, true, true, true, true, true, true, true, true, true, true, true, true, false, false, false, false, false, false, false, false, false, false, false, false, false, false, false, false, false, false, false] rfl rfl (by kernel_rfl) (fun _ _ _ h => h) (Or.inl ⟨by rfl, ?_⟩) ?_ ?_
                  rotate_left
                  · intro w'
                    go_simp
                    with_reducible rfl
                  rotate_left
                  · simp only [Act.put, List.setIfInBounds_toArray, List.set_cons_zero, List.set_cons_succ, i64_w, i32_w]
                    rfl
                  refine pure_ (i := 13) (N := some 130) (v := ?_) (a' := ?_) #[true, true, true, true, true, true, true, true, true, true, true, true, true, true, false, false, false, false, false, false, false, false, false, false, false, false, false, false, false, false, false, false] rfl rfl (by kernel_rfl) (fun _ _ _ h => h) (Or.inl ⟨by rfl, ?_⟩) ?_ ?_
                  rotate_left
                  · intro w'
                    go_simp
                    with_reducible rfl
                  rotate_left
                  · simp only [Act.put, List.setIfInBounds_toArray, List.set_cons_zero, List.set_cons_succ, i64_w, i32_w]
                    rfl
                  refine pure_ (i := 14) (N := some 131) (v := ?_) (a' := ?_) #[true, true, true, true, true, true, true, true, true, true, true, true, true, true, true, false, false, false, false, false, false, false, false, false, false, false, false, false, false, false, false, false] rfl rfl (by kernel_rfl) (fun _ _ _ h => h) (Or.inl ⟨by rfl, ?_⟩) ?_ ?_
                  rotate_left
                  · intro w'
                    go_simp
                    with_reducible rfl
                  rotate_left
                  · simp only [Act.put, List.setIfInBounds_toArray, List.set_cons_zero, List.set_cons_succ, i64_w, i32_w]
                    rfl
                  refine pure_ (i := 15) (N := some 132) (v := ?_) (a' := ?_) #[true, true, true, true, true, true, true, true, true, true, true, true, true, true, true, true, false, false, false, false, false, false, false, false, false, false, false, false, false, false, false, false] rfl rfl (by kernel_rfl) (fun _ _ _ h => h) (Or.inl ⟨by rfl, ?_⟩) ?_ ?_
                  rotate_left
                  · intro w'
                    go_simp
                    with_reducible rfl
                  rotate_left
                  · simp only [Act.put, List.setIfInBounds_toArray, List.set_cons_zero, List.set_cons_succ, i64_w, i32_w]
                    rfl
                  refine pure_ (i := 16) (N := some 133) (v := ?_) (a' := ?_) #[true, true, true, true, true, true, true, true, true, true, true, true, true, true, true, true, true, false, false, false, false, false, false, false, false, false, false, false, false, false, false, false] rfl rfl (by kernel_rfl) (fun _ _ _ h => h) (Or.inl ⟨by rfl, ?_⟩) ?_ ?_
                  rotate_left
                  · intro w'
                    go_simp
                    with_reducible rfl
                  rotate_left
                  · simp only [Act.put, List.setIfInBounds_toArray, List.set_cons_zero, List.set_cons_succ, i64_w, i32_w]
                    rfl
                  refine pure_ (i := 17) (N := some 134) (v := ?_) (a' := ?_) #[true, true, true, true, true, true, true, true, true, true, true, true, true, true, true, true, true, true, false, false, false, false, false, false, false, false, false, false, false, false, false, false] rfl rfl (by kernel_rfl) (fun _ _ _ h => h) (Or.inl ⟨by rfl, ?_⟩) ?_ ?_
                  rotate_left
                  · intro w'
                    go_simp
                    with_reducible rfl
                  rotate_left
                  · simp only [Act.put, List.setIfInBounds_toArray, List.set_cons_zero, List.set_cons_succ, i64_w, i32_w]
                    rfl
                  refine pure_ (i := 19) (N := some 136) (v := ?_) (a' := ?_) #[true, true, true, true, true, true, true, true, true, true, true, true, true, true, true, true, true, true, false, true, false, false, false, false, false, false, false, false, false, false, false, false] rfl rfl (by kernel_rfl) (fun _ _ _ h => h) (Or.inl ⟨by rfl, ?_⟩) ?_ ?_
                  rotate_left
                  · intro w'
                    go_simp
                    with_reducible rfl
                  rotate_left
                  · simp only [Act.put, List.setIfInBounds_toArray, List.set_cons_zero, List.set_cons_succ, i64_w, i32_w]
                    rfl
                  refine pure_ (i := 20) (N := some 137) (v := ?_) (a' := ?_) #[true, true, true, true, true, true, true, true, true, true, true, true, true, true, true, true, true, true, false, true, true, false, false, false, false, false, false, false, false, false, false, false] rfl rfl (by kernel_rfl) (fun _ _ _ h => h) (Or.inl ⟨by rfl, ?_⟩) ?_ ?_
                  rotate_left
                  · intro w'
                    go_simp
                    with_reducible rfl
                  rotate_left
                  · simp only [Act.put, List.setIfInBounds_toArray, List.set_cons_zero, List.set_cons_succ, i64_w, i32_w]
                    rfl
                  refine take_ (i := 18) (N := some 135) (v := ?_) (a' := ?_) #[true, true, true, true, true, true, true, true, true, true, true, true, true, true, true, true, true, true, true, true, true, false, false, false, false, false, false, false, false, false, false, false] rfl rfl (by kernel_rfl) (fun _ _ _ h => h) (Or.inl ⟨by rfl, ?_⟩) hHeld ?_ ?_
                  rotate_left
                  · rintro w' ⟨s0, s1, s2⟩
                    go_simp
                    with_reducible rfl
                  rotate_left
                  · simp only [Act.put, List.setIfInBounds_toArray, List.set_cons_zero, List.set_cons_succ, i64_w, i32_w]
                    rfl
                  refine take_ (i := 21) (N := some 138) (v := ?_) (a' := ?_) #[true, true, true, true, true, true, true, true, true, true, true, true, true, true, true, true, true, true, true, true, true, true, false, false, false, false, false, false, false, false, false, false] rfl rfl (by kernel_rfl) (fun _ _ _ h => h) (Or.inl ⟨by rfl, ?_⟩) hHeld ?_ ?_
                  rotate_left
                  · rintro w' ⟨s0, s1, s2⟩
                    go_simp
                    with_reducible rfl
                  rotate_left
                  · simp only [Act.put, List.setIfInBounds_toArray, List.set_cons_zero, List.set_cons_succ, i64_w, i32_w]
                    rfl
                  refine pure_ (i := 22) (N := some 139) (v := ?_) (a' := ?_) #[true, true, true, true, true, true, true, true, true, true, true, true, true, true, true, true, true, true, true, true, true, true, true, false, false, false, false, false, false, false, false, false] rfl rfl (by kernel_rfl) (fun _ _ _ h => h) (Or.inl ⟨by rfl, ?_⟩) ?_ ?_
                  rotate_left
                  · intro w'
                    go_simp
                    with_reducible rfl
                  rotate_left
                  · simp only [Act.put, List.setIfInBounds_toArray, List.set_cons_zero, List.set_cons_succ, i64_w, i32_w]
                    rfl
                  refine take_ (i := 23) (N := some 140) (v := ?_) (a' := ?_) #[true, true, true, true, true, true, true, true, true, true, true, true, true, true, true, true, true, true, true, true, true, true, true, true, false, false, false, false, false, false, false, false] rfl rfl (by kernel_rfl) (fun _ _ _ h => h) (Or.inl ⟨by rfl, ?_⟩) hHeld ?_ ?_
                  rotate_left
                  · rintro w' ⟨s0, s1, s2⟩
                    go_simp
                    with_reducible rfl
                  rotate_left
                  · simp only [Act.put, List.setIfInBounds_toArray, List.set_cons_zero, List.set_cons_succ, i64_w, i32_w]
                    rfl
                  refine pure_ (i := 24) (N := some 141) (v := ?_) (a' := ?_) #[true, true, true, true, true, true, true, true, true, true, true, true, true, true, true, true, true, true, true, true, true, true, true, true, true, false, false, false, false, false, false, false] rfl rfl (by kernel_rfl) (fun _ _ _ h => h) (Or.inl ⟨by rfl, ?_⟩) ?_ ?_
                  rotate_left
                  · intro w'
                    go_simp
                    with_reducible rfl
                  rotate_left
                  · simp only [Act.put, List.setIfInBounds_toArray, List.set_cons_zero, List.set_cons_succ, i64_w, i32_w]
                    rfl
                  refine pure_ (i := 25) (N := some 142) (v := ?_) (a' := ?_) #[true, true, true, true, true, true, true, true, true, true, true, true, true, true, true, true, true, true, true, true, true, true, true, true, true, true, false, false, false, false, false, false] rfl rfl (by kernel_rfl) (fun _ _ _ h => h) (Or.inl ⟨by rfl, ?_⟩) ?_ ?_
                  rotate_left
                  · intro w'
                    go_simp
                    with_reducible rfl
                  rotate_left
                  · simp only [Act.put, List.setIfInBounds_toArray, List.set_cons_zero, List.set_cons_succ, i64_w, i32_w]
                    rfl
                  refine pure_ (i := 26) (N := some 143) (v := undef) (a' := ?_) #[true, true, true, true, true, true, true, true, true, true, true, true, true, true, true, true, true, true, true, true, true, true, true, true, true, true, true, false, false, false, false, false] rfl rfl (by kernel_rfl) (fun _ _ _ h => h) (Or.inr ⟨by rfl, rfl⟩) ?_ ?_
                  rotate_left
                  · simp only [Act.put, List.setIfInBounds_toArray, List.set_cons_zero, List.set_cons_succ, i64_w, i32_w]
                    rfl
                  refine pure_ (i := 27) (N := some 144) (v := undef) (a' := ?_) #[true, true, true, true, true, true, true, true, true, true, true, true, true, true, true, true, true, true, true, true, true, true, true, true, true, true, true, true, false, false, false, false] rfl rfl (by kernel_rfl) (fun _ _ _ h => h) (Or.inr ⟨by rfl, rfl⟩) ?_ ?_
                  rotate_left
                  · simp only [Act.put, List.setIfInBounds_toArray, List.set_cons_zero, List.set_cons_succ, i64_w, i32_w]
                    rfl
                  refine pure_ (i := 28) (N := some 145) (v := undef) (a' := ?_) #[true, true, true, true, true, true, true, true, true, true, true, true, true, true, true, true, true, true, true, true, true, true, true, true, true, true, true, true, true, false, false, false] rfl rfl (by kernel_rfl) (fun _ _ _ h => h) (Or.inr ⟨by rfl, rfl⟩) ?_ ?_
                  rotate_left
                  · simp only [Act.put, List.setIfInBounds_toArray, List.set_cons_zero, List.set_cons_succ, i64_w, i32_w]
                    rfl
                  refine pure_ (i := 29) (N := some 146) (v := undef) (a' := ?_) #[true, true, true, true, true, true, true, true, true, true, true, true, true, true, true, true, true, true, true, true, true, true, true, true, true, true, true, true, true, true, false, false] rfl rfl (by kernel_rfl) (fun _ _ _ h => h) (Or.inr ⟨by rfl, rfl⟩) ?_ ?_
                  rotate_left
                  · simp only [Act.put, List.setIfInBounds_toArray, List.set_cons_zero, List.set_cons_succ, i64_w, i32_w]
                    rfl
                  refine pure_ (i := 30) (N := some 147) (v := ?_) (a' := ?_) #[true, true, true, true, true, true, true, true, true, true, true, true, true, true, true, true, true, true, true, true, true, true, true, true, true, true, true, true, true, true, true, false] rfl rfl (by kernel_rfl) (fun _ _ _ h => h) (Or.inl ⟨by rfl, ?_⟩) ?_ ?_
                  rotate_left
                  · intro w'
                    go_simp
                    with_reducible rfl
                  rotate_left
                  · simp only [Act.put, List.setIfInBounds_toArray, List.set_cons_zero, List.set_cons_succ, i64_w, i32_w]
                    rfl
                  refine pure_ (i := 31) (N := some 148) (v := ?_) (a' := ?_) #[true, true, true, true, true, true, true, true, true, true, true, true, true, true, true, true, true, true, true, true, true, true, true, true, true, true, true, true, true, true, true, true] rfl rfl (by kernel_rfl) (fun _ _ _ h => h) (Or.inl ⟨by rfl, ?_⟩) ?_ ?_
                  rotate_left
                  · intro w'
                    go_simp
                    with_reducible rfl
                  rotate_left
                  · simp only [Act.put, List.setIfInBounds_toArray, List.set_cons_zero, List.set_cons_succ, i64_w, i32_w]
                    rfl
                  refine done_ (by kernel_rfl) ?_
                  go_wp2_with fail
                  go_roundw
                  case rel => exact ⟨i + 1, by go_num, by omega, HBW.out⟩
                  case measure => simp [intOf]; omega
            · have b7 : decide (lm ≤ i) = true := decide_eq_true (by omega)
              go_wp2_with (go_at_call 27; (with_reducible refine (HHI.out _).mono ?_); rintro e_ w8 ⟨rfl, hb0⟩; have n0_ := Aside0.mk (below_then HBW.out HBW.out.size hb0.below); clear HBW hb0 c0 a2 t0; have HBW := n0_; clear n0_; have c0 := (HX.out.below HBW.out).at 0 (.int .i64 k) rfl; have a2 := (HA.out.below HBW.out).at 2 (.slice (some adm) lm cm) rfl; have t0 := (HT.out.below HBW.out).at 0 (.int .i64 q) rfl)
              go_roundw
              case rel => exact ⟨i + 1, by go_num, by omega, HBW.out⟩
              case measure => simp [intOf]; omega
        · obtain rfl : i = k := by omega
          have hib : decide (i < i) = false := decide_eq_false hik
          go_wp2_with fail
          go_ret
          exact ⟨rfl, below_then HB.out HB.out.size HBW.out⟩
end Go.Proofs.Ytffmhpfdfcpniaa.T
