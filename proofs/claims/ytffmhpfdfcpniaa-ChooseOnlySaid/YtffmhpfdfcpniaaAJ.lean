/- The law ChooseOnly, walked. -/
import Derived.Test.YtffmhpfdfcpniaaAH
import Derived.Deep.DeepCutAuto
namespace Go.Proofs.Ytffmhpfdfcpniaa.T
open Go.RowKit Go.Proofs.YtffmhpfdfcpniaaW.PrintWords Go.Proofs.YtffmhpfdfcpniaaW.PrintLast Go.Proofs.YtffmhpfdfcpniaaW.PrintMore Go.Proofs.Ytffmhpfdfcpniaa.PH
set_option linter.unusedVariables false
set_option linter.unusedSimpArgs false
theorem Blk.store4 {w : World} {b g : Nat} {cs : Array Value} {t : TypeId} (h : Blk w b cs t) (hp : b ≠ g) (v0 v1 v2 v3 : Value) : Blk ((((w.setCell ⟨g, 0, none⟩ v0).setCell ⟨g, 1, none⟩ v1).setCell ⟨g, 2, none⟩ v2).setCell ⟨g, 3, none⟩ v3) b cs t :=
  (((h.other ⟨g, 0, none⟩ hp v0).other ⟨g, 1, none⟩ hp v1).other ⟨g, 2, none⟩ hp v2).other ⟨g, 3, none⟩ hp v3
theorem Blk.put4 {w : World} {b : Nat} {t : TypeId} {a0 a1 a2 a3 : Value} (h : Blk w b #[a0, a1, a2, a3] t) (v0 v1 v2 v3 : Value) : Blk ((((w.setCell ⟨b, 0, none⟩ v0).setCell ⟨b, 1, none⟩ v1).setCell ⟨b, 2, none⟩ v2).setCell ⟨b, 3, none⟩ v3) b #[v0, v1, v2, v3] t := (((h.set 0 v0).set 1 v1).set 2 v2).set 3 v3
/-- What choose.Node answers of a machine and a policy that are ones, for a CPU that is one. -/
theorem chV_good {k : Nat} {f : Int} {cs : List Int} {ds : List (List Int)} {m : Int} {s : Nat} (hs : s < 256) {nd : Int} {i : Nat} {cur : Int} {may : List Bool} (hc : chk (k : Int) f cs ds = 0) (hp0 : polR m s nd k = 0) (hi : i < cs.length) :
    ∃ (a : Nat) (y : Int), a < k ∧ 1 ≤ k ∧ k ≤ 8 ∧ Far ds a k ∧ ds.length = k ∧ startR m s nd (rd cs (i : Int)) cur = ((a : Int), y) ∧ (∀ b, b < k → fit ds a b) ∧
      chV (k : Int) f cs ds m s nd (i : Int) cur may = ((nearR may (inL (permR m s k) (ordL ds a k))).getD 0, (a : Int), y, if (nearR may (inL (permR m s k) (ordL ds a k))).isSome = true then 0 else 5) := by
  obtain ⟨k', hk', h1, h8, hdl, hrl, hfits⟩ := chk_zero hc
  obtain rfl : k = k' := by omega
  obtain ⟨oi, o2⟩ : 0 ≤ rd cs (i : Int) ∧ rd cs (i : Int) < k := by
    unfold rd
    rw [Int.toNat_natCast, List.getD_eq_getElem?_getD, List.getElem?_eq_getElem hi]
    exact chk_cpus hc _ (List.getElem_mem hi)
  obtain ⟨x0, xk⟩ := start_in m s hs nd k h1 h8 (rd cs (i : Int)) cur oi o2 hp0
  obtain ⟨st, hst⟩ : ∃ st, startR m s nd (rd cs (i : Int)) cur = st := ⟨_, rfl⟩
  obtain ⟨x, y⟩ := st
  rw [hst] at x0 xk
  simp only at x0 xk
  obtain ⟨a, rfl⟩ : ∃ a : Nat, x = (a : Int) := ⟨x.toNat, by omega⟩
  have he0 : erN (k : Int) f cs ds (a : Int) = 0 := by unfold erN; rw [if_pos hc, if_neg (by omega)]
  obtain ⟨k', a', hk', ha', hak, _, _, _, hf⟩ := er_zero he0
  obtain rfl : k = k' := by omega
  obtain rfl : a = a' := by omega
  refine ⟨a, y, hak, h1, h8, hf, hdl, hst, hfits a hak, ?_⟩
  unfold chV
  rw [if_pos hc, if_neg (by omega), if_pos hp0, hst, Int.toNat_natCast, Int.toNat_natCast]
theorem rem_in (c : Int) (k : Nat) (h1 : 1 ≤ k) (h8 : k ≤ 1000) : ∃ q : Nat, wrap64 ((IntKind.u64.wrap c).tmod (k : Int)) = (q : Int) ∧ q < k := by
  have h0 : 0 ≤ IntKind.u64.wrap c := by
    have : IntKind.u64.wrap c = c % 18446744073709551616 := by simp [IntKind.wrap, IntKind.bits, IntKind.signed]
    omega
  have e := Int.tmod_eq_emod_of_nonneg h0 (b := (k : Int))
  have hk : (0 : Int) < k := by omega
  have r0 := Int.emod_nonneg (IntKind.u64.wrap c) (show (k : Int) ≠ 0 by omega)
  have r1 := Int.emod_lt_of_pos (IntKind.u64.wrap c) hk
  rw [e, wrap_s _ (by omega) (by omega)]
  exact ⟨((IntKind.u64.wrap c) % k).toNat, by omega, by omega⟩
theorem chk_len {n f : Int} {cpus : List Int} {dist : List (List Int)} (h : chk n f cpus dist = 0) : 1 ≤ cpus.length ∧ cpus.length ≤ 16 := by
  unfold chk at h
  by_cases h1 : countsB n f cpus = true
  · unfold countsB at h1
    simp at h1
    omega
  · rw [if_neg h1] at h; simp at h
/-- One node alone may. -/
def onlyL (k q : Nat) : List Bool := (List.replicate k false).set q true
theorem made_b (k : Nat) : madeCells #[.bool false] k = ((List.replicate k false).map Value.bool).toArray := by
  unfold madeCells
  apply Array.ext
  · simp
  · intro i h1 h2
    simp at h1 h2
    simp [Nat.mod_one]
theorem only_set (k q : Nat) : (((List.replicate k false).map Value.bool).toArray).setIfInBounds q (.bool true) = ((onlyL k q).map Value.bool).toArray := by
  unfold onlyL
  rw [List.setIfInBounds_toArray, List.map_set]
theorem onlyL_len (k q : Nat) : (onlyL k q).length = k := by unfold onlyL; simp
theorem onlyL_ok (k q : Nat) (hq : q < k) (x : Nat) (hx : x < k) : okB (onlyL k q) (x : Int) = decide (x = q) := by
  unfold okB rdOf
  rw [onlyL_len, Int.toNat_natCast, decide_eq_true (by omega), Bool.true_and, List.getD_eq_getElem?_getD]
  unfold onlyL
  rw [List.getElem?_set]
  by_cases e : q = x
  · subst e; simp [hq]
  · have e2 : ¬ x = q := fun h => e h.symm
    simp [e, e2, hx, List.getElem?_replicate]
theorem only_near (ds : List (List Int)) (a k q : Nat) (hf : Far ds a k) (hq : q < k) (pm : Int) : nearR (onlyL k q) (inL pm (ordL ds a k)) = if hasB pm (q : Int) = true then some (q : Int) else none := by
  rw [near_both]
  by_cases hh : hasB pm (q : Int) = true
  · rw [if_pos hh]
    cases hfd : (ordL ds a k).find? (bothB pm (onlyL k q)) with
    | none =>
      rw [List.find?_eq_none] at hfd
      have := hfd _ (ordL_mem ds a k hf q hq)
      unfold bothB at this
      rw [hh, onlyL_ok k q hq q hq] at this
      simp at this
    | some x =>
      have hm := List.mem_of_find?_eq_some hfd
      have hp := List.find?_some hfd
      obtain ⟨y, rfl, hy⟩ := ordL_of_mem ds a k x hm
      unfold bothB at hp
      rw [onlyL_ok k q hq y hy] at hp
      simp at hp
      rw [hp.2]
  · rw [if_neg hh, List.find?_eq_none]
    intro x hm hp
    obtain ⟨y, rfl, hy⟩ := ordL_of_mem ds a k x hm
    unfold bothB at hp
    rw [onlyL_ok k q hq y hy] at hp
    simp at hp
    rw [hp.2] at hp
    exact hh hp.1
set_option maxHeartbeats 4000000 in
set_option maxRecDepth 100000 in
theorem only_own (n f : Int) (A : Option Addr) (ca : Nat) (cpus : List Int) (B : Option Addr) (cb : Nat) (dist : List (List Int)) (m : Int) (s : Nat) (hs : s < 256) (nd cpu cur : Int) (M : Option Addr) (cm : Nat) (may : List Bool) (w : World) (hr2 : Kd.C (Kd.int .i64) w A cpus.length cpus) (hca : cpus.length ≤ ca) (hr3 : Kd.C (Kd.slice 3 (Kd.int .i64)) w B dist.length dist) (hcb : dist.length ≤ cb) (hrm : Kd.C Kd.bool w M may.length may) (hcm : may.length ≤ cm) :
    Calls Try.prog 9 #[.agg #[.int .i64 n, .int .i64 f, .slice A cpus.length ca, .slice B dist.length cb], .agg #[.int .i64 m, .int .u8 s, .int .i64 nd], .agg #[.int .i64 cpu, .int .i64 cur, .slice M may.length cm]] w fun e w' => e = .returned (.bool true) ∧ RowKit.Below w.heap.size w w' := by
  obtain ⟨cs, hcs⟩ : ∃ cs, cpus.take 20 = cs := ⟨_, rfl⟩
  obtain ⟨ds, hds⟩ : ∃ ds, dist.take 10 = ds := ⟨_, rfl⟩
  obtain ⟨lm, hlm⟩ : ∃ lm, may.length = lm := ⟨_, rfl⟩
  have h20 : min cpus.length 20 = cs.length := by rw [← hcs, List.length_take]; omega
  have h10 : min dist.length 10 = ds.length := by rw [← hds, List.length_take]; omega
  have HTM := Aside0.mk (fun (W : World) => tame11_own n f A cpus.length ca B dist.length cb cs.length ds.length W h20 h10 hca hcb hr2.2.1 hr3.2.1)
  have HC2 := Aside0.mk (show Kd.C (Kd.int .i64) w A cs.length cs from hcs ▸ C_take' hr2 20)
  have HC3 := Aside0.mk (show Kd.C (Kd.slice 3 (Kd.int .i64)) w B ds.length ds from hds ▸ C_take' hr3 10)
  have hca' : cs.length ≤ ca := by omega
  have hcb' : ds.length ≤ cb := by omega
  obtain ⟨c, hc⟩ : ∃ c, chk n f cs ds = c := ⟨_, rfl⟩
  have HCK := Aside0.mk (show ∀ W : World, RowKit.Below w.heap.size w W → Calls Try.prog 16 #[.agg #[.int .i64 n, .int .i64 f, .slice A cs.length ca, .slice B ds.length cb]] W (fun e w' => e = .returned (.int .i64 c) ∧ RowKit.Below W.heap.size W w') from fun W hW =>
    messuageref03_Check.calls 200 n f A ca cs B cb ds c W (Kd.C_below HC2.out hW) hca' (Kd.C_below HC3.out hW) hcb' (by rw [r03_f n f cs ds HC3.out.2.1 HC2.out.2.1, hc]))
  have HCV := Aside0.mk hc
  rw [hlm]
  clear hr2 hr3 hrm hcm h20 h10 hcs hds hlm hc
  go_enter Try.func9, Try.ntmps9
  go_upto_region 2 with (go_at_call 20; (with_reducible refine (HTM.out _).mono ?_); rintro e_ w2 ⟨rfl, hb⟩; have HX := Aside0.mk ((((Blk.new w #[.int .i64 n, .int .i64 f, .slice A cpus.length ca, .slice B dist.length cb] 25).alloc _).alloc _).below hb); have HP := Aside0.mk (((Blk.new1 w _ #[.int .i64 m, .int .u8 s, .int .i64 nd] 49).alloc _).below hb); have HA := Aside0.mk ((Blk.new2 w _ _ #[.int .i64 cpu, .int .i64 cur, .slice M lm cm] 51).below hb); have HB := Aside0.mk (below_then (below_alloc (below_alloc (below_alloc (RowKit.Below.refl w.heap.size w) _) _) _) (below_alloc (below_alloc (below_alloc (RowKit.Below.refl w.heap.size w) _) _) _).size hb); clear hb; have c0 := HX.out.at 0 (.int .i64 n) rfl; have c1 := HX.out.at 1 (.int .i64 f) rfl; have c2 := HX.out.at 2 (.slice A cpus.length ca) rfl; have c3 := HX.out.at 3 (.slice B dist.length cb) rfl; have f0 := HX.out.fz 0; have f1 := HX.out.fz 1; have f2 := HX.out.fz 2; have f3 := HX.out.fz 3)
  have n0_ := Aside0.mk (HX.out.put4 (.int .i64 n) (.int .i64 f) (.slice A cs.length ca) (.slice B ds.length cb))
  have n1_ := Aside0.mk (HP.out.store4 (g := w.heap.size) (by omega) (.int .i64 n) (.int .i64 f) (.slice A cs.length ca) (.slice B ds.length cb))
  have n2_ := Aside0.mk (HA.out.store4 (g := w.heap.size) (by omega) (.int .i64 n) (.int .i64 f) (.slice A cs.length ca) (.slice B ds.length cb))
  have n3_ := Aside0.mk (below_store HB.out (Nat.le_refl _) (.int .i64 n) (.int .i64 f) (.slice A cs.length ca) (.slice B ds.length cb))
  clear HX HP HA HB c0 c1 c2 c3 f0 f1 f2 f3
  generalize (((w2.setCell { block := w.heap.size, off := 0 } (Value.int IntKind.i64 n)).setCell { block := w.heap.size, off := 1 } (Value.int IntKind.i64 f)).setCell { block := w.heap.size, off := 2 } (Value.slice A cs.length ca)).setCell { block := w.heap.size, off := 3 } (Value.slice B ds.length cb) = W at *
  have HX := n0_
  have HP := n1_
  have HA := n2_
  have HB := n3_
  clear n0_ n1_ n2_ n3_ HTM
  have c0 := HX.out.at 0 (.int .i64 n) rfl
  have c1 := HX.out.at 1 (.int .i64 f) rfl
  have c2 := HX.out.at 2 (.slice A cs.length ca) rfl
  have c3 := HX.out.at 3 (.slice B ds.length cb) rfl
  have p0 := HP.out.at 0 (.int .i64 m) rfl
  have p1 := HP.out.at 1 (.int .u8 s) rfl
  have p2 := HP.out.at 2 (.int .i64 nd) rfl
  have a0 := HA.out.at 0 (.int .i64 cpu) rfl
  have a1 := HA.out.at 1 (.int .i64 cur) rfl
  have a2 := HA.out.at 2 (.slice M lm cm) rfl
  by_cases hc0 : c = 0
  · subst hc0
    obtain ⟨k, rfl, h1, h8, hdl, hrl, hfits⟩ := chk_zero HCV.out
    clear hrl hfits hdl
    obtain ⟨pe, hpe⟩ : ∃ pe, polR m s nd k = pe := ⟨_, rfl⟩
    have HPE := Aside0.mk (show ∀ W : World, Calls Try.prog 29 #[.agg #[.int .i64 m, .int .u8 s, .int .i64 nd], .int .i64 k] W (fun e w' => e = .returned (.int .i64 pe) ∧ RowKit.Below W.heap.size W w') from fun W => messuageref10_Check.calls 20 m s nd k pe W (by rw [rcheck_f m s hs nd k h1 h8, hpe]))
    by_cases hp0 : pe = 0
    · subst hp0
      go_upto_region 4 with (first | (go_at_call 25; (with_reducible refine (chooses_own _).mono ?_); rintro e_ w5 ⟨rfl, hb⟩; have n0_ := Aside0.mk (below_then HB.out HB.out.size hb); have n1_ := Aside0.mk (HX.out.below hb); have n2_ := Aside0.mk (HP.out.below hb); have n3_ := Aside0.mk (HA.out.below hb); clear HB HX HP HA c0 c1 c2 c3 p0 p1 p2 a0 a1 a2 hb; have HB := n0_; have HX := n1_; have HP := n2_; have HA := n3_; clear n0_ n1_ n2_ n3_; have c0 := HX.out.at 0 (.int .i64 k) rfl; have c1 := HX.out.at 1 (.int .i64 f) rfl; have c2 := HX.out.at 2 (.slice A cs.length ca) rfl; have c3 := HX.out.at 3 (.slice B ds.length cb) rfl; have p0 := HP.out.at 0 (.int .i64 m) rfl; have p1 := HP.out.at 1 (.int .u8 s) rfl; have p2 := HP.out.at 2 (.int .i64 nd) rfl; have a0 := HA.out.at 0 (.int .i64 cpu) rfl; have a1 := HA.out.at 1 (.int .i64 cur) rfl; have a2 := HA.out.at 2 (.slice M lm cm) rfl) | (go_at_call 16; (with_reducible refine (HCK.out _ HB.out).mono ?_); rintro e_ w6 ⟨rfl, hb⟩; have n0_ := Aside0.mk (below_then HB.out HB.out.size hb); have n1_ := Aside0.mk (HX.out.below hb); have n2_ := Aside0.mk (HP.out.below hb); have n3_ := Aside0.mk (HA.out.below hb); clear HB HX HP HA c0 c1 c2 c3 p0 p1 p2 a0 a1 a2 hb; have HB := n0_; have HX := n1_; have HP := n2_; have HA := n3_; clear n0_ n1_ n2_ n3_; have c0 := HX.out.at 0 (.int .i64 k) rfl; have c1 := HX.out.at 1 (.int .i64 f) rfl; have c2 := HX.out.at 2 (.slice A cs.length ca) rfl; have c3 := HX.out.at 3 (.slice B ds.length cb) rfl; have p0 := HP.out.at 0 (.int .i64 m) rfl; have p1 := HP.out.at 1 (.int .u8 s) rfl; have p2 := HP.out.at 2 (.int .i64 nd) rfl; have a0 := HA.out.at 0 (.int .i64 cpu) rfl; have a1 := HA.out.at 1 (.int .i64 cur) rfl; have a2 := HA.out.at 2 (.slice M lm cm) rfl) | (go_at_call 29; (with_reducible refine (HPE.out _).mono ?_); rintro e_ w7 ⟨rfl, hb⟩; have n0_ := Aside0.mk (below_then HB.out HB.out.size hb); have n1_ := Aside0.mk (HX.out.below hb); have n2_ := Aside0.mk (HP.out.below hb); have n3_ := Aside0.mk (HA.out.below hb); clear HB HX HP HA c0 c1 c2 c3 p0 p1 p2 a0 a1 a2 hb; have HB := n0_; have HX := n1_; have HP := n2_; have HA := n3_; clear n0_ n1_ n2_ n3_; have c0 := HX.out.at 0 (.int .i64 k) rfl; have c1 := HX.out.at 1 (.int .i64 f) rfl; have c2 := HX.out.at 2 (.slice A cs.length ca) rfl; have c3 := HX.out.at 3 (.slice B ds.length cb) rfl; have p0 := HP.out.at 0 (.int .i64 m) rfl; have p1 := HP.out.at 1 (.int .u8 s) rfl; have p2 := HP.out.at 2 (.int .i64 nd) rfl; have a0 := HA.out.at 0 (.int .i64 cpu) rfl; have a1 := HA.out.at 1 (.int .i64 cur) rfl; have a2 := HA.out.at 2 (.slice M lm cm) rfl))
      have hkw : (k : Int) % 18446744073709551616 = (k : Int) := by omega
      have hk0 : ((k : Int) == 0) = false := by simp; omega
      go_upto_region 5 with fail
      obtain ⟨q, hq, hqk⟩ := rem_in cur k h1 (by omega)
      rw [hq]
      clear hq hkw hk0
      have q0 : (0 : Int) ≤ (q : Int) := by omega
      have qI : (q : Int) < (k : Int) := by omega
      have hmk := print_make_of (P := Try.prog) 26 4 (.bool false) 1 Try.underlying26 (by kernel_rfl) rfl (by decide) k (by omega)
      go_upto_region 6 with fail
      have mk0 := Aside0.mk (show Blk (w7.alloc (.cells (madeCells #[.bool false] k) 4)) w7.heap.size (((List.replicate k false).map Value.bool).toArray) 4 from by unfold Blk; rw [← made_b]; exact heap_alloc_new _ _)
      have mk1 := Aside0.mk (below_alloc (RowKit.Below.refl w7.heap.size w7) (.cells (madeCells #[.bool false] k) 4))
      clear hmk
      obtain ⟨g, hg⟩ : ∃ g, w7.heap.size = g := ⟨_, rfl⟩
      rw [hg] at mk0 ⊢
      have HGE := Aside0.mk (show w7.heap.size ≤ g by omega)
      generalize w7.alloc (.cells (madeCells #[.bool false] k) 4) = W5 at *
      clear hg
      have g1 : W5.cell? ⟨g, q, none⟩ = some (.bool false) := mk0.out.at q (.bool false) (by rw [List.getElem?_toArray, List.getElem?_map, List.getElem?_replicate, if_pos hqk]; rfl)
      have g2 := mk0.out.fz q
      go_upto_region 7 with fail
      have mk2 := Aside0.mk (show Blk (W5.setCell ⟨g, q, none⟩ (.bool true)) g (((onlyL k q).map Value.bool).toArray) 4 from by have h := mk0.out.set q (.bool true); rw [only_set] at h; exact h)
      have hb := RowKit.Below.setCell (p := ⟨g, q, none⟩) mk1.out HGE.out (.bool true)
      have n0_ := Aside0.mk (below_then HB.out HB.out.size hb)
      have n1_ := Aside0.mk (HX.out.below hb)
      have n2_ := Aside0.mk (HP.out.below hb)
      have n3_ := Aside0.mk (HA.out.below hb)
      clear HB HX HP HA c0 c1 c2 c3 p0 p1 p2 a0 a1 a2 hb
      have HB := n0_
      have HX := n1_
      have HP := n2_
      have HA := n3_
      clear n0_ n1_ n2_ n3_
      have c0 := HX.out.at 0 (.int .i64 k) rfl
      have c1 := HX.out.at 1 (.int .i64 f) rfl
      have c2 := HX.out.at 2 (.slice A cs.length ca) rfl
      have c3 := HX.out.at 3 (.slice B ds.length cb) rfl
      have p0 := HP.out.at 0 (.int .i64 m) rfl
      have p1 := HP.out.at 1 (.int .u8 s) rfl
      have p2 := HP.out.at 2 (.int .i64 nd) rfl
      have a0 := HA.out.at 0 (.int .i64 cpu) rfl
      have a1 := HA.out.at 1 (.int .i64 cur) rfl
      have a2 := HA.out.at 2 (.slice M lm cm) rfl
      generalize W5.setCell ⟨g, q, none⟩ (.bool true) = W6 at *
      have HM := Aside0.mk (show Kd.C Kd.bool W6 (some ⟨g, 0, none⟩) k (onlyL k q) from by have h := row_B W6 g 4 (onlyL k q) mk2.out (by rw [onlyL_len]; omega); rw [onlyL_len] at h; exact h)
      clear mk0 mk1 mk2 g1 g2 HGE
      obtain ⟨l1, l16⟩ := chk_len HCV.out
      obtain ⟨i, hiw, hil⟩ := rem_in cpu cs.length l1 (by omega)
      obtain ⟨a, y, hak, hx1, hx2, hf, hx3, hx4, hx5, hV⟩ := chV_good (m := m) (nd := nd) (cur := cur) (may := onlyL k q) hs HCV.out hpe hil
      rw [only_near ds a k q hf hqk] at hV
      obtain ⟨⟨v0, v1, v2, er⟩, hv⟩ : ∃ v, chV (k : Int) f cs ds m s nd (i : Int) cur (onlyL k q) = v := ⟨_, rfl⟩
      have HND := Aside0.mk (show ∀ (W : World), RowKit.Below w.heap.size w W → Kd.C Kd.bool W (some ⟨g, 0, none⟩) k (onlyL k q) → Calls Try.prog 21 #[.agg #[.int .i64 k, .int .i64 f, .slice A cs.length ca, .slice B ds.length cb], .agg #[.int .i64 m, .int .u8 s, .int .i64 nd], .int .i64 (wrap64 ((IntKind.u64.wrap cpu).tmod (cs.length : Int))), .int .i64 cur, .slice (some ⟨g, 0, none⟩) k k] W (fun e w' => e = .returned (.tuple #[.agg #[.int .i64 v0, .int .i64 v1, .int .i64 v2], .int .i64 er]) ∧ RowKit.Below W.heap.size W w') from fun W hW hM => by
        have := node_own k f A ca cs B cb ds m s hs nd i cur (some ⟨g, 0, none⟩) k (onlyL k q) W (Kd.C_below HC2.out hW) hca' (Kd.C_below HC3.out hW) hcb' (by rw [onlyL_len]; exact hM)
        rw [hv, onlyL_len, ← hiw] at this
        exact this)
      rw [hv] at hV
      have HVV := Aside0.mk hV
      have hcw : (cs.length : Int) % 18446744073709551616 = (cs.length : Int) := by omega
      have hcu : IntKind.u64.wrap (cs.length : Int) = (cs.length : Int) := by
        have : IntKind.u64.wrap (cs.length : Int) = (cs.length : Int) % 18446744073709551616 := by simp [IntKind.wrap, IntKind.bits, IntKind.signed]
        omega
      have hcn : ¬ cs = [] := by intro e; rw [e] at l1; simp at l1
      clear hV hv hf hak HCK HPE hx1 hx2 hx3 hx4 hx5
      refine start_ (n := 23) (S := fun w' => w'.cell? ⟨w.heap.size, 0, none⟩ = some (.int .i64 k) ∧ w'.cell? ⟨w.heap.size, 1, none⟩ = some (.int .i64 f) ∧ w'.cell? ⟨w.heap.size, 2, none⟩ = some (.slice A cs.length ca) ∧ w'.cell? ⟨w.heap.size, 3, none⟩ = some (.slice B ds.length cb) ∧ w'.cell? ⟨w.heap.size + 1, 0, none⟩ = some (.int .i64 m) ∧ w'.cell? ⟨w.heap.size + 1, 1, none⟩ = some (.int .u8 s) ∧ w'.cell? ⟨w.heap.size + 1, 2, none⟩ = some (.int .i64 nd) ∧ w'.cell? ⟨w.heap.size + 1 + 1, 0, none⟩ = some (.int .i64 cpu) ∧ w'.cell? ⟨w.heap.size + 1 + 1, 1, none⟩ = some (.int .i64 cur) ∧ w'.cell? ⟨w.heap.size + 1 + 1, 2, none⟩ = some (.slice M lm cm)) (ds := [21]) #[false, false, false, false, false, false, false, false, false, false, false, false, false, false, false, false, false, false, false, false, false, false, false] (by kernel_rfl) rfl rfl ⟨c0, c1, c2, c3, p0, p1, p2, a0, a1, a2⟩ (fun hHeld => ?_)
      have hd_ := below_drew (RowKit.Below.refl W6.heap.size W6)
      have n0_ := Aside0.mk (below_then HB.out HB.out.size hd_)
      have n1_ := Aside0.mk (HX.out.below hd_)
      have n2_ := Aside0.mk (HP.out.below hd_)
      have n3_ := Aside0.mk (HA.out.below hd_)
      have n4_ := Aside0.mk (Kd.C_below HM.out hd_)
      clear HB HX HP HA HM c0 c1 c2 c3 p0 p1 p2 a0 a1 a2 hd_
      have HB := n0_
      have HX := n1_
      have HP := n2_
      have HA := n3_
      have HM := n4_
      clear n0_ n1_ n2_ n3_ n4_
      have c0 := HX.out.at 0 (.int .i64 k) rfl
      have c1 := HX.out.at 1 (.int .i64 f) rfl
      have c2 := HX.out.at 2 (.slice A cs.length ca) rfl
      have c3 := HX.out.at 3 (.slice B ds.length cb) rfl
      have p0 := HP.out.at 0 (.int .i64 m) rfl
      have p1 := HP.out.at 1 (.int .u8 s) rfl
      have p2 := HP.out.at 2 (.int .i64 nd) rfl
      have a0 := HA.out.at 0 (.int .i64 cpu) rfl
      have a1 := HA.out.at 1 (.int .i64 cur) rfl
      have a2 := HA.out.at 2 (.slice M lm cm) rfl
      generalize W6.drew = wd at *
      have HD := Aside0.mk (RowKit.Below.refl wd.heap.size wd)
      refine pure_ (i := 4) (N := some 47) (v := ?_) (a' := ?_) #[false, false, false, false, true, false, false, false, false, false, false, false, false, false, false, false, false, false, false, false, false, false, false] rfl rfl (by kernel_rfl) (fun _ _ _ h => h) (Or.inl ⟨by rfl, ?_⟩) ?_ ?_
      rotate_left
      · intro w'
        go_simp
        with_reducible rfl
      rotate_left
      · simp only [Act.put, List.setIfInBounds_toArray, List.set_cons_zero, List.set_cons_succ, i64_w, i32_w]
        rfl
      refine pure_ (i := 7) (N := some 50) (v := ?_) (a' := ?_) #[false, false, false, false, true, false, false, true, false, false, false, false, false, false, false, false, false, false, false, false, false, false, false] rfl rfl (by kernel_rfl) (fun _ _ _ h => h) (Or.inl ⟨by rfl, ?_⟩) ?_ ?_
      rotate_left
      · intro w'
        go_simp
        with_reducible rfl
      rotate_left
      · simp only [Act.put, List.setIfInBounds_toArray, List.set_cons_zero, List.set_cons_succ, i64_w, i32_w]
        rfl
      refine pure_ (i := 13) (N := some 56) (v := ?_) (a' := ?_) #[false, false, false, false, true, false, false, true, false, false, false, false, false, true, false, false, false, false, false, false, false, false, false] rfl rfl (by kernel_rfl) (fun _ _ _ h => h) (Or.inl ⟨by rfl, ?_⟩) ?_ ?_
      rotate_left
      · intro w'
        go_simp
        with_reducible rfl
      rotate_left
      · simp only [Act.put, List.setIfInBounds_toArray, List.set_cons_zero, List.set_cons_succ, i64_w, i32_w]
        rfl
      refine pure_ (i := 15) (N := some 58) (v := ?_) (a' := ?_) #[false, false, false, false, true, false, false, true, false, false, false, false, false, true, false, true, false, false, false, false, false, false, false] rfl rfl (by kernel_rfl) (fun _ _ _ h => h) (Or.inl ⟨by rfl, ?_⟩) ?_ ?_
      rotate_left
      · intro w'
        go_simp
        with_reducible rfl
      rotate_left
      · simp only [Act.put, List.setIfInBounds_toArray, List.set_cons_zero, List.set_cons_succ, i64_w, i32_w]
        rfl
      refine take_ (i := 0) (N := some 43) (v := ?_) (a' := ?_) #[true, false, false, false, true, false, false, true, false, false, false, false, false, true, false, true, false, false, false, false, false, false, false] rfl rfl (by kernel_rfl) (fun _ _ _ h => h) (Or.inl ⟨by rfl, ?_⟩) hHeld ?_ ?_
      rotate_left
      · rintro w' ⟨s0, s1, s2, s3, s4, s5, s6, s7, s8, s9⟩
        go_simp
        with_reducible rfl
      rotate_left
      · simp only [Act.put, List.setIfInBounds_toArray, List.set_cons_zero, List.set_cons_succ, i64_w, i32_w]
        rfl
      refine take_ (i := 2) (N := some 45) (v := ?_) (a' := ?_) #[true, false, true, false, true, false, false, true, false, false, false, false, false, true, false, true, false, false, false, false, false, false, false] rfl rfl (by kernel_rfl) (fun _ _ _ h => h) (Or.inl ⟨by rfl, ?_⟩) hHeld ?_ ?_
      rotate_left
      · rintro w' ⟨s0, s1, s2, s3, s4, s5, s6, s7, s8, s9⟩
        go_simp
        with_reducible rfl
      rotate_left
      · simp only [Act.put, List.setIfInBounds_toArray, List.set_cons_zero, List.set_cons_succ, i64_w, i32_w]
        rfl
      refine take_ (i := 5) (N := some 48) (v := ?_) (a' := ?_) #[true, false, true, false, true, true, false, true, false, false, false, false, false, true, false, true, false, false, false, false, false, false, false] rfl rfl (by kernel_rfl) (fun _ _ _ h => h) (Or.inl ⟨by rfl, ?_⟩) hHeld ?_ ?_
      rotate_left
      · rintro w' ⟨s0, s1, s2, s3, s4, s5, s6, s7, s8, s9⟩
        go_simp
        with_reducible rfl
      rotate_left
      · simp only [Act.put, List.setIfInBounds_toArray, List.set_cons_zero, List.set_cons_succ, i64_w, i32_w]
        rfl
      refine pure_ (i := 6) (N := some 49) (v := ?_) (a' := ?_) #[true, false, true, false, true, true, true, true, false, false, false, false, false, true, false, true, false, false, false, false, false, false, false] rfl rfl (by kernel_rfl) (fun _ _ _ h => h) (Or.inl ⟨by rfl, ?_⟩) ?_ ?_
      rotate_left
      · intro w'
        go_simp
        with_reducible rfl
      rotate_left
      · simp only [Act.put, List.setIfInBounds_toArray, List.set_cons_zero, List.set_cons_succ, i64_w, i32_w]
        rfl
      refine take_ (i := 8) (N := some 51) (v := ?_) (a' := ?_) #[true, false, true, false, true, true, true, true, true, false, false, false, false, true, false, true, false, false, false, false, false, false, false] rfl rfl (by kernel_rfl) (fun _ _ _ h => h) (Or.inl ⟨by rfl, ?_⟩) hHeld ?_ ?_
      rotate_left
      · rintro w' ⟨s0, s1, s2, s3, s4, s5, s6, s7, s8, s9⟩
        go_simp
        with_reducible rfl
      rotate_left
      · simp only [Act.put, List.setIfInBounds_toArray, List.set_cons_zero, List.set_cons_succ, i64_w, i32_w]
        rfl
      refine pure_ (i := 9) (N := some 52) (v := ?_) (a' := ?_) #[true, false, true, false, true, true, true, true, true, true, false, false, false, true, false, true, false, false, false, false, false, false, false] rfl rfl (by kernel_rfl) (fun _ _ _ h => h) (Or.inl ⟨by rfl, ?_⟩) ?_ ?_
      rotate_left
      · intro w'
        go_simp
        with_reducible rfl
      rotate_left
      · simp only [Act.put, List.setIfInBounds_toArray, List.set_cons_zero, List.set_cons_succ, i64_w, i32_w]
        rfl
      refine pure_ (i := 10) (N := some 53) (v := ?_) (a' := ?_) #[true, false, true, false, true, true, true, true, true, true, true, false, false, true, false, true, false, false, false, false, false, false, false] rfl rfl (by kernel_rfl) (fun _ _ _ h => h) (Or.inl ⟨by rfl, ?_⟩) ?_ ?_
      rotate_left
      · intro w'
        go_simp
        with_reducible rfl
      rotate_left
      · simp only [Act.put, List.setIfInBounds_toArray, List.set_cons_zero, List.set_cons_succ, i64_w, i32_w]
        rfl
      refine pure_ (i := 11) (N := some 54) (v := ?_) (a' := ?_) #[true, false, true, false, true, true, true, true, true, true, true, true, false, true, false, true, false, false, false, false, false, false, false] rfl rfl (by kernel_rfl) (fun _ _ _ h => h) (Or.inl ⟨by rfl, ?_⟩) ?_ ?_
      rotate_left
      · intro w'
        go_simp
        with_reducible rfl
      rotate_left
      · simp only [Act.put, List.setIfInBounds_toArray, List.set_cons_zero, List.set_cons_succ, i64_w, i32_w]
        rfl
      refine pure_ (i := 12) (N := some 55) (v := ?_) (a' := ?_) #[true, false, true, false, true, true, true, true, true, true, true, true, true, true, false, true, false, false, false, false, false, false, false] rfl rfl (by kernel_rfl) (fun _ _ _ h => h) (Or.inl ⟨by rfl, ?_⟩) ?_ ?_
      rotate_left
      · intro w'
        go_simp
        with_reducible rfl
      rotate_left
      · simp only [Act.put, List.setIfInBounds_toArray, List.set_cons_zero, List.set_cons_succ, i64_w, i32_w]
        rfl
      refine take_ (i := 14) (N := some 57) (v := ?_) (a' := ?_) #[true, false, true, false, true, true, true, true, true, true, true, true, true, true, true, true, false, false, false, false, false, false, false] rfl rfl (by kernel_rfl) (fun _ _ _ h => h) (Or.inl ⟨by rfl, ?_⟩) hHeld ?_ ?_
      rotate_left
      · rintro w' ⟨s0, s1, s2, s3, s4, s5, s6, s7, s8, s9⟩
        go_simp
        with_reducible rfl
      rotate_left
      · simp only [Act.put, List.setIfInBounds_toArray, List.set_cons_zero, List.set_cons_succ, i64_w, i32_w]
        rfl
      refine join_ (σ := Nat) 2 #[true, true, true, true, true, true, true, true, true, true, true, true, true, true, true, true, true, true, true, true, true, false, false] (fun sg_ => [(44, .agg #[.int .i64 k, .int .i64 f, .slice A cs.length ca, .slice B ds.length cb]), (46, .agg #[.int .i64 m, .int .u8 s, .int .i64 nd]), (59, .tuple #[.agg #[.int .i64 v0, .int .i64 v1, .int .i64 v2], .int .i64 er]), (9, .pointer (some ⟨sg_, 0, none⟩)), (42, .tuple #[.agg #[.int .i64 v0, .int .i64 v1, .int .i64 v2], .int .i64 er]), (60, .agg #[.int .i64 v0, .int .i64 v1, .int .i64 v2]), (61, .int .i64 er)]) (fun sg_ w_ => Blk w_ sg_ #[.int .i64 0, .int .i64 0, .int .i64 0] 53 ∧ wd.heap.size ≤ sg_ ∧ RowKit.Below wd.heap.size wd w_) ?_ ?_
      rotate_left
      · intro hCont
        refine two_ (i := 1) (j := 20) (Ni := some 44) (Nj := some 9) #[true, true, true, false, true, true, true, true, true, true, true, true, true, true, true, true, false, false, false, false, false, false, false] #[true, false, true, false, true, true, true, true, true, true, true, true, true, true, true, true, false, false, false, false, true, false, false] rfl rfl rfl rfl (by kernel_rfl) (by decide) (by decide) (fun K hK => ?_) (fun K hK => ?_)
        · skip
          refine goes_ Try.func22 (by kernel_rfl) rfl #[.agg #[.int .i64 k, .int .i64 f, .slice A cs.length ca, .slice B ds.length cb]] (by rfl) rfl rfl (by simp only [List.map_toArray, List.map_cons, List.map_nil]; rfl) ?_
          with_reducible refine (machine_own k f A cs.length ca B ds.length cb _).mono ?_
          rintro e_ wa ⟨rfl, hb⟩
          refine ⟨_, rfl, ?_⟩
          have n0_ := Aside0.mk (below_then HB.out HB.out.size hb)
          have n1_ := Aside0.mk (HX.out.below hb)
          have n2_ := Aside0.mk (HP.out.below hb)
          have n3_ := Aside0.mk (HA.out.below hb)
          have n4_ := Aside0.mk (Kd.C_below HM.out hb)
          have n5_ := Aside0.mk (below_then HD.out HD.out.size hb)
          clear HB HX HP HA HM HD c0 c1 c2 c3 p0 p1 p2 a0 a1 a2 hb
          have HB := n0_
          have HX := n1_
          have HP := n2_
          have HA := n3_
          have HM := n4_
          have HD := n5_
          clear n0_ n1_ n2_ n3_ n4_ n5_
          have c0 := HX.out.at 0 (.int .i64 k) rfl
          have c1 := HX.out.at 1 (.int .i64 f) rfl
          have c2 := HX.out.at 2 (.slice A cs.length ca) rfl
          have c3 := HX.out.at 3 (.slice B ds.length cb) rfl
          have p0 := HP.out.at 0 (.int .i64 m) rfl
          have p1 := HP.out.at 1 (.int .u8 s) rfl
          have p2 := HP.out.at 2 (.int .i64 nd) rfl
          have a0 := HA.out.at 0 (.int .i64 cpu) rfl
          have a1 := HA.out.at 1 (.int .i64 cur) rfl
          have a2 := HA.out.at 2 (.slice M lm cm) rfl
          refine hK.out _ _ ⟨HX.out.at 0 (.int .i64 k) rfl, HX.out.at 1 (.int .i64 f) rfl, HX.out.at 2 (.slice A cs.length ca) rfl, HX.out.at 3 (.slice B ds.length cb) rfl, HP.out.at 0 (.int .i64 m) rfl, HP.out.at 1 (.int .u8 s) rfl, HP.out.at 2 (.int .i64 nd) rfl, HA.out.at 0 (.int .i64 cpu) rfl, HA.out.at 1 (.int .i64 cur) rfl, HA.out.at 2 (.slice M lm cm) rfl⟩ (fun hHeld => ?_)
          clear hK K
          refine norm_ (a' := ?_) ?_ ?_
          rotate_left
          · show Act.put _ (some 44) _ = _
            simp only [Act.put, List.setIfInBounds_toArray, List.set_cons_zero, List.set_cons_succ, i64_w, i32_w]
            rfl
          refine two_ (i := 3) (j := 20) (Ni := some 46) (Nj := some 9) #[true, true, true, true, true, true, true, true, true, true, true, true, true, true, true, true, false, false, false, false, false, false, false] #[true, true, true, false, true, true, true, true, true, true, true, true, true, true, true, true, false, false, false, false, true, false, false] rfl rfl rfl rfl (by kernel_rfl) (by decide) (by decide) (fun K hK => ?_) (fun K hK => ?_)
          · skip
            refine goes_ Try.func23 (by kernel_rfl) rfl #[.agg #[.int .i64 m, .int .u8 s, .int .i64 nd]] (by rfl) rfl rfl (by simp only [List.map_toArray, List.map_cons, List.map_nil]; rfl) ?_
            with_reducible refine (messuagelaw11_rule.calls m s nd m s nd _ rfl).mono ?_
            rintro e_ wb ⟨rfl, hb⟩
            refine ⟨_, rfl, ?_⟩
            have n0_ := Aside0.mk (below_then HB.out HB.out.size hb)
            have n1_ := Aside0.mk (HX.out.below hb)
            have n2_ := Aside0.mk (HP.out.below hb)
            have n3_ := Aside0.mk (HA.out.below hb)
            have n4_ := Aside0.mk (Kd.C_below HM.out hb)
            have n5_ := Aside0.mk (below_then HD.out HD.out.size hb)
            clear HB HX HP HA HM HD c0 c1 c2 c3 p0 p1 p2 a0 a1 a2 hb
            have HB := n0_
            have HX := n1_
            have HP := n2_
            have HA := n3_
            have HM := n4_
            have HD := n5_
            clear n0_ n1_ n2_ n3_ n4_ n5_
            have c0 := HX.out.at 0 (.int .i64 k) rfl
            have c1 := HX.out.at 1 (.int .i64 f) rfl
            have c2 := HX.out.at 2 (.slice A cs.length ca) rfl
            have c3 := HX.out.at 3 (.slice B ds.length cb) rfl
            have p0 := HP.out.at 0 (.int .i64 m) rfl
            have p1 := HP.out.at 1 (.int .u8 s) rfl
            have p2 := HP.out.at 2 (.int .i64 nd) rfl
            have a0 := HA.out.at 0 (.int .i64 cpu) rfl
            have a1 := HA.out.at 1 (.int .i64 cur) rfl
            have a2 := HA.out.at 2 (.slice M lm cm) rfl
            refine hK.out _ _ ⟨HX.out.at 0 (.int .i64 k) rfl, HX.out.at 1 (.int .i64 f) rfl, HX.out.at 2 (.slice A cs.length ca) rfl, HX.out.at 3 (.slice B ds.length cb) rfl, HP.out.at 0 (.int .i64 m) rfl, HP.out.at 1 (.int .u8 s) rfl, HP.out.at 2 (.int .i64 nd) rfl, HA.out.at 0 (.int .i64 cpu) rfl, HA.out.at 1 (.int .i64 cur) rfl, HA.out.at 2 (.slice M lm cm) rfl⟩ (fun hHeld => ?_)
            clear hK K
            refine norm_ (a' := ?_) ?_ ?_
            rotate_left
            · show Act.put _ (some 46) _ = _
              simp only [Act.put, List.setIfInBounds_toArray, List.set_cons_zero, List.set_cons_succ, i64_w, i32_w]
              rfl
            refine two_ (i := 16) (j := 20) (Ni := some 59) (Nj := some 9) #[true, true, true, true, true, true, true, true, true, true, true, true, true, true, true, true, true, false, false, false, false, false, false] #[true, true, true, true, true, true, true, true, true, true, true, true, true, true, true, true, false, false, false, false, true, false, false] rfl rfl rfl rfl (by kernel_rfl) (by decide) (by decide) (fun K hK => ?_) (fun K hK => ?_)
            · skip
              refine goes_ Try.func21 (by kernel_rfl) rfl #[.agg #[.int .i64 k, .int .i64 f, .slice A cs.length ca, .slice B ds.length cb], .agg #[.int .i64 m, .int .u8 s, .int .i64 nd], .int .i64 (wrap64 ((IntKind.u64.wrap cpu).tmod (cs.length : Int))), .int .i64 cur, .slice (some ⟨g, 0, none⟩) k k] (by rfl) rfl rfl (by simp only [List.map_toArray, List.map_cons, List.map_nil]; rfl) ?_
              with_reducible refine (HND.out _ HB.out HM.out).mono ?_
              rintro e_ wc ⟨rfl, hb⟩
              refine ⟨_, rfl, ?_⟩
              have n0_ := Aside0.mk (below_then HB.out HB.out.size hb)
              have n1_ := Aside0.mk (HX.out.below hb)
              have n2_ := Aside0.mk (HP.out.below hb)
              have n3_ := Aside0.mk (HA.out.below hb)
              have n4_ := Aside0.mk (Kd.C_below HM.out hb)
              have n5_ := Aside0.mk (below_then HD.out HD.out.size hb)
              clear HB HX HP HA HM HD c0 c1 c2 c3 p0 p1 p2 a0 a1 a2 hb
              have HB := n0_
              have HX := n1_
              have HP := n2_
              have HA := n3_
              have HM := n4_
              have HD := n5_
              clear n0_ n1_ n2_ n3_ n4_ n5_
              have c0 := HX.out.at 0 (.int .i64 k) rfl
              have c1 := HX.out.at 1 (.int .i64 f) rfl
              have c2 := HX.out.at 2 (.slice A cs.length ca) rfl
              have c3 := HX.out.at 3 (.slice B ds.length cb) rfl
              have p0 := HP.out.at 0 (.int .i64 m) rfl
              have p1 := HP.out.at 1 (.int .u8 s) rfl
              have p2 := HP.out.at 2 (.int .i64 nd) rfl
              have a0 := HA.out.at 0 (.int .i64 cpu) rfl
              have a1 := HA.out.at 1 (.int .i64 cur) rfl
              have a2 := HA.out.at 2 (.slice M lm cm) rfl
              refine hK.out _ _ ⟨HX.out.at 0 (.int .i64 k) rfl, HX.out.at 1 (.int .i64 f) rfl, HX.out.at 2 (.slice A cs.length ca) rfl, HX.out.at 3 (.slice B ds.length cb) rfl, HP.out.at 0 (.int .i64 m) rfl, HP.out.at 1 (.int .u8 s) rfl, HP.out.at 2 (.int .i64 nd) rfl, HA.out.at 0 (.int .i64 cpu) rfl, HA.out.at 1 (.int .i64 cur) rfl, HA.out.at 2 (.slice M lm cm) rfl⟩ (fun hHeld => ?_)
              clear hK K
              refine norm_ (a' := ?_) ?_ ?_
              rotate_left
              · show Act.put _ (some 59) _ = _
                simp only [Act.put, List.setIfInBounds_toArray, List.set_cons_zero, List.set_cons_succ, i64_w, i32_w]
                rfl
              refine pure_ (i := 17) (N := some 42) (v := ?_) (a' := ?_) #[true, true, true, true, true, true, true, true, true, true, true, true, true, true, true, true, true, true, false, false, false, false, false] rfl rfl (by kernel_rfl) (fun _ _ _ h => h) (Or.inl ⟨by rfl, ?_⟩) ?_ ?_
              rotate_left
              · intro w'
                go_simp
                with_reducible rfl
              rotate_left
              · simp only [Act.put, List.setIfInBounds_toArray, List.set_cons_zero, List.set_cons_succ, i64_w, i32_w]
                rfl
              refine pure_ (i := 18) (N := some 60) (v := ?_) (a' := ?_) #[true, true, true, true, true, true, true, true, true, true, true, true, true, true, true, true, true, true, true, false, false, false, false] rfl rfl (by kernel_rfl) (fun _ _ _ h => h) (Or.inl ⟨by rfl, ?_⟩) ?_ ?_
              rotate_left
              · intro w'
                go_simp
                with_reducible rfl
              rotate_left
              · simp only [Act.put, List.setIfInBounds_toArray, List.set_cons_zero, List.set_cons_succ, i64_w, i32_w]
                rfl
              refine pure_ (i := 19) (N := some 61) (v := ?_) (a' := ?_) #[true, true, true, true, true, true, true, true, true, true, true, true, true, true, true, true, true, true, true, true, false, false, false] rfl rfl (by kernel_rfl) (fun _ _ _ h => h) (Or.inl ⟨by rfl, ?_⟩) ?_ ?_
              rotate_left
              · intro w'
                go_simp
                with_reducible rfl
              rotate_left
              · simp only [Act.put, List.setIfInBounds_toArray, List.set_cons_zero, List.set_cons_succ, i64_w, i32_w]
                rfl
              refine one_ (i := 20) (N := some 9) #[true, true, true, true, true, true, true, true, true, true, true, true, true, true, true, true, true, true, true, true, true, false, false] rfl rfl (by kernel_rfl) (by decide) (fun K hK => ?_)
              refine value_ (w1 := ?_) (v := ?_) (by rfl) rfl ?_ ?_
              rotate_left 2
              · go_simp
                constructor
                · rfl
                · rfl
              have hb := below_alloc (RowKit.Below.refl wc.heap.size wc) (.cells #[.int .i64 0, .int .i64 0, .int .i64 0] 53)
              have HT := Aside0.mk (Blk.new wc #[.int .i64 0, .int .i64 0, .int .i64 0] 53)
              have HSZ := Aside0.mk HD.out.size
              have n0_ := Aside0.mk (below_then HB.out HB.out.size hb)
              have n1_ := Aside0.mk (HX.out.below hb)
              have n2_ := Aside0.mk (HP.out.below hb)
              have n3_ := Aside0.mk (HA.out.below hb)
              have n4_ := Aside0.mk (Kd.C_below HM.out hb)
              have n5_ := Aside0.mk (below_then HD.out HD.out.size hb)
              clear HB HX HP HA HM HD c0 c1 c2 c3 p0 p1 p2 a0 a1 a2 hb
              have HB := n0_
              have HX := n1_
              have HP := n2_
              have HA := n3_
              have HM := n4_
              have HD := n5_
              clear n0_ n1_ n2_ n3_ n4_ n5_
              have c0 := HX.out.at 0 (.int .i64 k) rfl
              have c1 := HX.out.at 1 (.int .i64 f) rfl
              have c2 := HX.out.at 2 (.slice A cs.length ca) rfl
              have c3 := HX.out.at 3 (.slice B ds.length cb) rfl
              have p0 := HP.out.at 0 (.int .i64 m) rfl
              have p1 := HP.out.at 1 (.int .u8 s) rfl
              have p2 := HP.out.at 2 (.int .i64 nd) rfl
              have a0 := HA.out.at 0 (.int .i64 cpu) rfl
              have a1 := HA.out.at 1 (.int .i64 cur) rfl
              have a2 := HA.out.at 2 (.slice M lm cm) rfl
              refine hK.out _ _ ⟨HX.out.at 0 (.int .i64 k) rfl, HX.out.at 1 (.int .i64 f) rfl, HX.out.at 2 (.slice A cs.length ca) rfl, HX.out.at 3 (.slice B ds.length cb) rfl, HP.out.at 0 (.int .i64 m) rfl, HP.out.at 1 (.int .u8 s) rfl, HP.out.at 2 (.int .i64 nd) rfl, HA.out.at 0 (.int .i64 cpu) rfl, HA.out.at 1 (.int .i64 cur) rfl, HA.out.at 2 (.slice M lm cm) rfl⟩ (fun hHeld => ?_)
              clear hK K
              refine norm_ (a' := ?_) ?_ ?_
              rotate_left
              · show Act.put _ (some 9) _ = _
                simp only [Act.put, List.setIfInBounds_toArray, List.set_cons_zero, List.set_cons_succ, i64_w, i32_w]
                rfl
              exact norm_ (by simp only [putAll, Act.put, List.setIfInBounds_toArray, List.set_cons_zero, List.set_cons_succ]) (hCont wc.heap.size _ ⟨HT.out, HSZ.out, HD.out⟩)
            · skip
              refine value_ (w1 := ?_) (v := ?_) (by rfl) rfl ?_ ?_
              rotate_left 2
              · go_simp
                constructor
                · rfl
                · rfl
              have hb := below_alloc (RowKit.Below.refl wb.heap.size wb) (.cells #[.int .i64 0, .int .i64 0, .int .i64 0] 53)
              have HT := Aside0.mk (Blk.new wb #[.int .i64 0, .int .i64 0, .int .i64 0] 53)
              have HSZ := Aside0.mk HD.out.size
              have n0_ := Aside0.mk (below_then HB.out HB.out.size hb)
              have n1_ := Aside0.mk (HX.out.below hb)
              have n2_ := Aside0.mk (HP.out.below hb)
              have n3_ := Aside0.mk (HA.out.below hb)
              have n4_ := Aside0.mk (Kd.C_below HM.out hb)
              have n5_ := Aside0.mk (below_then HD.out HD.out.size hb)
              clear HB HX HP HA HM HD c0 c1 c2 c3 p0 p1 p2 a0 a1 a2 hb
              have HB := n0_
              have HX := n1_
              have HP := n2_
              have HA := n3_
              have HM := n4_
              have HD := n5_
              clear n0_ n1_ n2_ n3_ n4_ n5_
              have c0 := HX.out.at 0 (.int .i64 k) rfl
              have c1 := HX.out.at 1 (.int .i64 f) rfl
              have c2 := HX.out.at 2 (.slice A cs.length ca) rfl
              have c3 := HX.out.at 3 (.slice B ds.length cb) rfl
              have p0 := HP.out.at 0 (.int .i64 m) rfl
              have p1 := HP.out.at 1 (.int .u8 s) rfl
              have p2 := HP.out.at 2 (.int .i64 nd) rfl
              have a0 := HA.out.at 0 (.int .i64 cpu) rfl
              have a1 := HA.out.at 1 (.int .i64 cur) rfl
              have a2 := HA.out.at 2 (.slice M lm cm) rfl
              refine hK.out _ _ ⟨HX.out.at 0 (.int .i64 k) rfl, HX.out.at 1 (.int .i64 f) rfl, HX.out.at 2 (.slice A cs.length ca) rfl, HX.out.at 3 (.slice B ds.length cb) rfl, HP.out.at 0 (.int .i64 m) rfl, HP.out.at 1 (.int .u8 s) rfl, HP.out.at 2 (.int .i64 nd) rfl, HA.out.at 0 (.int .i64 cpu) rfl, HA.out.at 1 (.int .i64 cur) rfl, HA.out.at 2 (.slice M lm cm) rfl⟩ (fun hHeld => ?_)
              clear hK K
              refine norm_ (a' := ?_) ?_ ?_
              rotate_left
              · show Act.put _ (some 9) _ = _
                simp only [Act.put, List.setIfInBounds_toArray, List.set_cons_zero, List.set_cons_succ, i64_w, i32_w]
                rfl
              refine one_ (i := 16) (N := some 59) #[true, true, true, true, true, true, true, true, true, true, true, true, true, true, true, true, true, false, false, false, true, false, false] rfl rfl (by kernel_rfl) (by decide) (fun K hK => ?_)
              refine goes_ Try.func21 (by kernel_rfl) rfl #[.agg #[.int .i64 k, .int .i64 f, .slice A cs.length ca, .slice B ds.length cb], .agg #[.int .i64 m, .int .u8 s, .int .i64 nd], .int .i64 (wrap64 ((IntKind.u64.wrap cpu).tmod (cs.length : Int))), .int .i64 cur, .slice (some ⟨g, 0, none⟩) k k] (by rfl) rfl rfl (by simp only [List.map_toArray, List.map_cons, List.map_nil]; rfl) ?_
              with_reducible refine (HND.out _ HB.out HM.out).mono ?_
              rintro e_ wc ⟨rfl, hb⟩
              refine ⟨_, rfl, ?_⟩
              have n0_ := Aside0.mk (below_then HB.out HB.out.size hb)
              have n1_ := Aside0.mk (HX.out.below hb)
              have n2_ := Aside0.mk (HP.out.below hb)
              have n3_ := Aside0.mk (HA.out.below hb)
              have n4_ := Aside0.mk (Kd.C_below HM.out hb)
              have n5_ := Aside0.mk (below_then HD.out HD.out.size hb)
              have n6_ := Aside0.mk (HT.out.below hb)
              clear HB HX HP HA HM HD HT c0 c1 c2 c3 p0 p1 p2 a0 a1 a2 hb
              have HB := n0_
              have HX := n1_
              have HP := n2_
              have HA := n3_
              have HM := n4_
              have HD := n5_
              have HT := n6_
              clear n0_ n1_ n2_ n3_ n4_ n5_ n6_
              have c0 := HX.out.at 0 (.int .i64 k) rfl
              have c1 := HX.out.at 1 (.int .i64 f) rfl
              have c2 := HX.out.at 2 (.slice A cs.length ca) rfl
              have c3 := HX.out.at 3 (.slice B ds.length cb) rfl
              have p0 := HP.out.at 0 (.int .i64 m) rfl
              have p1 := HP.out.at 1 (.int .u8 s) rfl
              have p2 := HP.out.at 2 (.int .i64 nd) rfl
              have a0 := HA.out.at 0 (.int .i64 cpu) rfl
              have a1 := HA.out.at 1 (.int .i64 cur) rfl
              have a2 := HA.out.at 2 (.slice M lm cm) rfl
              refine hK.out _ _ ⟨HX.out.at 0 (.int .i64 k) rfl, HX.out.at 1 (.int .i64 f) rfl, HX.out.at 2 (.slice A cs.length ca) rfl, HX.out.at 3 (.slice B ds.length cb) rfl, HP.out.at 0 (.int .i64 m) rfl, HP.out.at 1 (.int .u8 s) rfl, HP.out.at 2 (.int .i64 nd) rfl, HA.out.at 0 (.int .i64 cpu) rfl, HA.out.at 1 (.int .i64 cur) rfl, HA.out.at 2 (.slice M lm cm) rfl⟩ (fun hHeld => ?_)
              clear hK K
              refine norm_ (a' := ?_) ?_ ?_
              rotate_left
              · show Act.put _ (some 59) _ = _
                simp only [Act.put, List.setIfInBounds_toArray, List.set_cons_zero, List.set_cons_succ, i64_w, i32_w]
                rfl
              refine pure_ (i := 17) (N := some 42) (v := ?_) (a' := ?_) #[true, true, true, true, true, true, true, true, true, true, true, true, true, true, true, true, true, true, false, false, true, false, false] rfl rfl (by kernel_rfl) (fun _ _ _ h => h) (Or.inl ⟨by rfl, ?_⟩) ?_ ?_
              rotate_left
              · intro w'
                go_simp
                with_reducible rfl
              rotate_left
              · simp only [Act.put, List.setIfInBounds_toArray, List.set_cons_zero, List.set_cons_succ, i64_w, i32_w]
                rfl
              refine pure_ (i := 18) (N := some 60) (v := ?_) (a' := ?_) #[true, true, true, true, true, true, true, true, true, true, true, true, true, true, true, true, true, true, true, false, true, false, false] rfl rfl (by kernel_rfl) (fun _ _ _ h => h) (Or.inl ⟨by rfl, ?_⟩) ?_ ?_
              rotate_left
              · intro w'
                go_simp
                with_reducible rfl
              rotate_left
              · simp only [Act.put, List.setIfInBounds_toArray, List.set_cons_zero, List.set_cons_succ, i64_w, i32_w]
                rfl
              refine pure_ (i := 19) (N := some 61) (v := ?_) (a' := ?_) #[true, true, true, true, true, true, true, true, true, true, true, true, true, true, true, true, true, true, true, true, true, false, false] rfl rfl (by kernel_rfl) (fun _ _ _ h => h) (Or.inl ⟨by rfl, ?_⟩) ?_ ?_
              rotate_left
              · intro w'
                go_simp
                with_reducible rfl
              rotate_left
              · simp only [Act.put, List.setIfInBounds_toArray, List.set_cons_zero, List.set_cons_succ, i64_w, i32_w]
                rfl
              exact norm_ (by simp only [putAll, Act.put, List.setIfInBounds_toArray, List.set_cons_zero, List.set_cons_succ]) (hCont wb.heap.size _ ⟨HT.out, HSZ.out, HD.out⟩)
          · skip
            refine value_ (w1 := ?_) (v := ?_) (by rfl) rfl ?_ ?_
            rotate_left 2
            · go_simp
              constructor
              · rfl
              · rfl
            have hb := below_alloc (RowKit.Below.refl wa.heap.size wa) (.cells #[.int .i64 0, .int .i64 0, .int .i64 0] 53)
            have HT := Aside0.mk (Blk.new wa #[.int .i64 0, .int .i64 0, .int .i64 0] 53)
            have HSZ := Aside0.mk HD.out.size
            have n0_ := Aside0.mk (below_then HB.out HB.out.size hb)
            have n1_ := Aside0.mk (HX.out.below hb)
            have n2_ := Aside0.mk (HP.out.below hb)
            have n3_ := Aside0.mk (HA.out.below hb)
            have n4_ := Aside0.mk (Kd.C_below HM.out hb)
            have n5_ := Aside0.mk (below_then HD.out HD.out.size hb)
            clear HB HX HP HA HM HD c0 c1 c2 c3 p0 p1 p2 a0 a1 a2 hb
            have HB := n0_
            have HX := n1_
            have HP := n2_
            have HA := n3_
            have HM := n4_
            have HD := n5_
            clear n0_ n1_ n2_ n3_ n4_ n5_
            have c0 := HX.out.at 0 (.int .i64 k) rfl
            have c1 := HX.out.at 1 (.int .i64 f) rfl
            have c2 := HX.out.at 2 (.slice A cs.length ca) rfl
            have c3 := HX.out.at 3 (.slice B ds.length cb) rfl
            have p0 := HP.out.at 0 (.int .i64 m) rfl
            have p1 := HP.out.at 1 (.int .u8 s) rfl
            have p2 := HP.out.at 2 (.int .i64 nd) rfl
            have a0 := HA.out.at 0 (.int .i64 cpu) rfl
            have a1 := HA.out.at 1 (.int .i64 cur) rfl
            have a2 := HA.out.at 2 (.slice M lm cm) rfl
            refine hK.out _ _ ⟨HX.out.at 0 (.int .i64 k) rfl, HX.out.at 1 (.int .i64 f) rfl, HX.out.at 2 (.slice A cs.length ca) rfl, HX.out.at 3 (.slice B ds.length cb) rfl, HP.out.at 0 (.int .i64 m) rfl, HP.out.at 1 (.int .u8 s) rfl, HP.out.at 2 (.int .i64 nd) rfl, HA.out.at 0 (.int .i64 cpu) rfl, HA.out.at 1 (.int .i64 cur) rfl, HA.out.at 2 (.slice M lm cm) rfl⟩ (fun hHeld => ?_)
            clear hK K
            refine norm_ (a' := ?_) ?_ ?_
            rotate_left
            · show Act.put _ (some 9) _ = _
              simp only [Act.put, List.setIfInBounds_toArray, List.set_cons_zero, List.set_cons_succ, i64_w, i32_w]
              rfl
            refine one_ (i := 3) (N := some 46) #[true, true, true, true, true, true, true, true, true, true, true, true, true, true, true, true, false, false, false, false, true, false, false] rfl rfl (by kernel_rfl) (by decide) (fun K hK => ?_)
            refine goes_ Try.func23 (by kernel_rfl) rfl #[.agg #[.int .i64 m, .int .u8 s, .int .i64 nd]] (by rfl) rfl rfl (by simp only [List.map_toArray, List.map_cons, List.map_nil]; rfl) ?_
            with_reducible refine (messuagelaw11_rule.calls m s nd m s nd _ rfl).mono ?_
            rintro e_ wb ⟨rfl, hb⟩
            refine ⟨_, rfl, ?_⟩
            have n0_ := Aside0.mk (below_then HB.out HB.out.size hb)
            have n1_ := Aside0.mk (HX.out.below hb)
            have n2_ := Aside0.mk (HP.out.below hb)
            have n3_ := Aside0.mk (HA.out.below hb)
            have n4_ := Aside0.mk (Kd.C_below HM.out hb)
            have n5_ := Aside0.mk (below_then HD.out HD.out.size hb)
            have n6_ := Aside0.mk (HT.out.below hb)
            clear HB HX HP HA HM HD HT c0 c1 c2 c3 p0 p1 p2 a0 a1 a2 hb
            have HB := n0_
            have HX := n1_
            have HP := n2_
            have HA := n3_
            have HM := n4_
            have HD := n5_
            have HT := n6_
            clear n0_ n1_ n2_ n3_ n4_ n5_ n6_
            have c0 := HX.out.at 0 (.int .i64 k) rfl
            have c1 := HX.out.at 1 (.int .i64 f) rfl
            have c2 := HX.out.at 2 (.slice A cs.length ca) rfl
            have c3 := HX.out.at 3 (.slice B ds.length cb) rfl
            have p0 := HP.out.at 0 (.int .i64 m) rfl
            have p1 := HP.out.at 1 (.int .u8 s) rfl
            have p2 := HP.out.at 2 (.int .i64 nd) rfl
            have a0 := HA.out.at 0 (.int .i64 cpu) rfl
            have a1 := HA.out.at 1 (.int .i64 cur) rfl
            have a2 := HA.out.at 2 (.slice M lm cm) rfl
            refine hK.out _ _ ⟨HX.out.at 0 (.int .i64 k) rfl, HX.out.at 1 (.int .i64 f) rfl, HX.out.at 2 (.slice A cs.length ca) rfl, HX.out.at 3 (.slice B ds.length cb) rfl, HP.out.at 0 (.int .i64 m) rfl, HP.out.at 1 (.int .u8 s) rfl, HP.out.at 2 (.int .i64 nd) rfl, HA.out.at 0 (.int .i64 cpu) rfl, HA.out.at 1 (.int .i64 cur) rfl, HA.out.at 2 (.slice M lm cm) rfl⟩ (fun hHeld => ?_)
            clear hK K
            refine norm_ (a' := ?_) ?_ ?_
            rotate_left
            · show Act.put _ (some 46) _ = _
              simp only [Act.put, List.setIfInBounds_toArray, List.set_cons_zero, List.set_cons_succ, i64_w, i32_w]
              rfl
            refine one_ (i := 16) (N := some 59) #[true, true, true, true, true, true, true, true, true, true, true, true, true, true, true, true, true, false, false, false, true, false, false] rfl rfl (by kernel_rfl) (by decide) (fun K hK => ?_)
            refine goes_ Try.func21 (by kernel_rfl) rfl #[.agg #[.int .i64 k, .int .i64 f, .slice A cs.length ca, .slice B ds.length cb], .agg #[.int .i64 m, .int .u8 s, .int .i64 nd], .int .i64 (wrap64 ((IntKind.u64.wrap cpu).tmod (cs.length : Int))), .int .i64 cur, .slice (some ⟨g, 0, none⟩) k k] (by rfl) rfl rfl (by simp only [List.map_toArray, List.map_cons, List.map_nil]; rfl) ?_
            with_reducible refine (HND.out _ HB.out HM.out).mono ?_
            rintro e_ wc ⟨rfl, hb⟩
            refine ⟨_, rfl, ?_⟩
            have n0_ := Aside0.mk (below_then HB.out HB.out.size hb)
            have n1_ := Aside0.mk (HX.out.below hb)
            have n2_ := Aside0.mk (HP.out.below hb)
            have n3_ := Aside0.mk (HA.out.below hb)
            have n4_ := Aside0.mk (Kd.C_below HM.out hb)
            have n5_ := Aside0.mk (below_then HD.out HD.out.size hb)
            have n6_ := Aside0.mk (HT.out.below hb)
            clear HB HX HP HA HM HD HT c0 c1 c2 c3 p0 p1 p2 a0 a1 a2 hb
            have HB := n0_
            have HX := n1_
            have HP := n2_
            have HA := n3_
            have HM := n4_
            have HD := n5_
            have HT := n6_
            clear n0_ n1_ n2_ n3_ n4_ n5_ n6_
            have c0 := HX.out.at 0 (.int .i64 k) rfl
            have c1 := HX.out.at 1 (.int .i64 f) rfl
            have c2 := HX.out.at 2 (.slice A cs.length ca) rfl
            have c3 := HX.out.at 3 (.slice B ds.length cb) rfl
            have p0 := HP.out.at 0 (.int .i64 m) rfl
            have p1 := HP.out.at 1 (.int .u8 s) rfl
            have p2 := HP.out.at 2 (.int .i64 nd) rfl
            have a0 := HA.out.at 0 (.int .i64 cpu) rfl
            have a1 := HA.out.at 1 (.int .i64 cur) rfl
            have a2 := HA.out.at 2 (.slice M lm cm) rfl
            refine hK.out _ _ ⟨HX.out.at 0 (.int .i64 k) rfl, HX.out.at 1 (.int .i64 f) rfl, HX.out.at 2 (.slice A cs.length ca) rfl, HX.out.at 3 (.slice B ds.length cb) rfl, HP.out.at 0 (.int .i64 m) rfl, HP.out.at 1 (.int .u8 s) rfl, HP.out.at 2 (.int .i64 nd) rfl, HA.out.at 0 (.int .i64 cpu) rfl, HA.out.at 1 (.int .i64 cur) rfl, HA.out.at 2 (.slice M lm cm) rfl⟩ (fun hHeld => ?_)
            clear hK K
            refine norm_ (a' := ?_) ?_ ?_
            rotate_left
            · show Act.put _ (some 59) _ = _
              simp only [Act.put, List.setIfInBounds_toArray, List.set_cons_zero, List.set_cons_succ, i64_w, i32_w]
              rfl
            refine pure_ (i := 17) (N := some 42) (v := ?_) (a' := ?_) #[true, true, true, true, true, true, true, true, true, true, true, true, true, true, true, true, true, true, false, false, true, false, false] rfl rfl (by kernel_rfl) (fun _ _ _ h => h) (Or.inl ⟨by rfl, ?_⟩) ?_ ?_
            rotate_left
            · intro w'
              go_simp
              with_reducible rfl
            rotate_left
            · simp only [Act.put, List.setIfInBounds_toArray, List.set_cons_zero, List.set_cons_succ, i64_w, i32_w]
              rfl
            refine pure_ (i := 18) (N := some 60) (v := ?_) (a' := ?_) #[true, true, true, true, true, true, true, true, true, true, true, true, true, true, true, true, true, true, true, false, true, false, false] rfl rfl (by kernel_rfl) (fun _ _ _ h => h) (Or.inl ⟨by rfl, ?_⟩) ?_ ?_
            rotate_left
            · intro w'
              go_simp
              with_reducible rfl
            rotate_left
            · simp only [Act.put, List.setIfInBounds_toArray, List.set_cons_zero, List.set_cons_succ, i64_w, i32_w]
              rfl
            refine pure_ (i := 19) (N := some 61) (v := ?_) (a' := ?_) #[true, true, true, true, true, true, true, true, true, true, true, true, true, true, true, true, true, true, true, true, true, false, false] rfl rfl (by kernel_rfl) (fun _ _ _ h => h) (Or.inl ⟨by rfl, ?_⟩) ?_ ?_
            rotate_left
            · intro w'
              go_simp
              with_reducible rfl
            rotate_left
            · simp only [Act.put, List.setIfInBounds_toArray, List.set_cons_zero, List.set_cons_succ, i64_w, i32_w]
              rfl
            exact norm_ (by simp only [putAll, Act.put, List.setIfInBounds_toArray, List.set_cons_zero, List.set_cons_succ]) (hCont wa.heap.size _ ⟨HT.out, HSZ.out, HD.out⟩)
        · skip
          refine value_ (w1 := ?_) (v := ?_) (by rfl) rfl ?_ ?_
          rotate_left 2
          · go_simp
            constructor
            · rfl
            · rfl
          have hb := below_alloc (RowKit.Below.refl wd.heap.size wd) (.cells #[.int .i64 0, .int .i64 0, .int .i64 0] 53)
          have HT := Aside0.mk (Blk.new wd #[.int .i64 0, .int .i64 0, .int .i64 0] 53)
          have HSZ := Aside0.mk HD.out.size
          have n0_ := Aside0.mk (below_then HB.out HB.out.size hb)
          have n1_ := Aside0.mk (HX.out.below hb)
          have n2_ := Aside0.mk (HP.out.below hb)
          have n3_ := Aside0.mk (HA.out.below hb)
          have n4_ := Aside0.mk (Kd.C_below HM.out hb)
          have n5_ := Aside0.mk (below_then HD.out HD.out.size hb)
          clear HB HX HP HA HM HD c0 c1 c2 c3 p0 p1 p2 a0 a1 a2 hb
          have HB := n0_
          have HX := n1_
          have HP := n2_
          have HA := n3_
          have HM := n4_
          have HD := n5_
          clear n0_ n1_ n2_ n3_ n4_ n5_
          have c0 := HX.out.at 0 (.int .i64 k) rfl
          have c1 := HX.out.at 1 (.int .i64 f) rfl
          have c2 := HX.out.at 2 (.slice A cs.length ca) rfl
          have c3 := HX.out.at 3 (.slice B ds.length cb) rfl
          have p0 := HP.out.at 0 (.int .i64 m) rfl
          have p1 := HP.out.at 1 (.int .u8 s) rfl
          have p2 := HP.out.at 2 (.int .i64 nd) rfl
          have a0 := HA.out.at 0 (.int .i64 cpu) rfl
          have a1 := HA.out.at 1 (.int .i64 cur) rfl
          have a2 := HA.out.at 2 (.slice M lm cm) rfl
          refine hK.out _ _ ⟨HX.out.at 0 (.int .i64 k) rfl, HX.out.at 1 (.int .i64 f) rfl, HX.out.at 2 (.slice A cs.length ca) rfl, HX.out.at 3 (.slice B ds.length cb) rfl, HP.out.at 0 (.int .i64 m) rfl, HP.out.at 1 (.int .u8 s) rfl, HP.out.at 2 (.int .i64 nd) rfl, HA.out.at 0 (.int .i64 cpu) rfl, HA.out.at 1 (.int .i64 cur) rfl, HA.out.at 2 (.slice M lm cm) rfl⟩ (fun hHeld => ?_)
          clear hK K
          refine norm_ (a' := ?_) ?_ ?_
          rotate_left
          · show Act.put _ (some 9) _ = _
            simp only [Act.put, List.setIfInBounds_toArray, List.set_cons_zero, List.set_cons_succ, i64_w, i32_w]
            rfl
          refine one_ (i := 1) (N := some 44) #[true, true, true, false, true, true, true, true, true, true, true, true, true, true, true, true, false, false, false, false, true, false, false] rfl rfl (by kernel_rfl) (by decide) (fun K hK => ?_)
          refine goes_ Try.func22 (by kernel_rfl) rfl #[.agg #[.int .i64 k, .int .i64 f, .slice A cs.length ca, .slice B ds.length cb]] (by rfl) rfl rfl (by simp only [List.map_toArray, List.map_cons, List.map_nil]; rfl) ?_
          with_reducible refine (machine_own k f A cs.length ca B ds.length cb _).mono ?_
          rintro e_ wa ⟨rfl, hb⟩
          refine ⟨_, rfl, ?_⟩
          have n0_ := Aside0.mk (below_then HB.out HB.out.size hb)
          have n1_ := Aside0.mk (HX.out.below hb)
          have n2_ := Aside0.mk (HP.out.below hb)
          have n3_ := Aside0.mk (HA.out.below hb)
          have n4_ := Aside0.mk (Kd.C_below HM.out hb)
          have n5_ := Aside0.mk (below_then HD.out HD.out.size hb)
          have n6_ := Aside0.mk (HT.out.below hb)
          clear HB HX HP HA HM HD HT c0 c1 c2 c3 p0 p1 p2 a0 a1 a2 hb
          have HB := n0_
          have HX := n1_
          have HP := n2_
          have HA := n3_
          have HM := n4_
          have HD := n5_
          have HT := n6_
          clear n0_ n1_ n2_ n3_ n4_ n5_ n6_
          have c0 := HX.out.at 0 (.int .i64 k) rfl
          have c1 := HX.out.at 1 (.int .i64 f) rfl
          have c2 := HX.out.at 2 (.slice A cs.length ca) rfl
          have c3 := HX.out.at 3 (.slice B ds.length cb) rfl
          have p0 := HP.out.at 0 (.int .i64 m) rfl
          have p1 := HP.out.at 1 (.int .u8 s) rfl
          have p2 := HP.out.at 2 (.int .i64 nd) rfl
          have a0 := HA.out.at 0 (.int .i64 cpu) rfl
          have a1 := HA.out.at 1 (.int .i64 cur) rfl
          have a2 := HA.out.at 2 (.slice M lm cm) rfl
          refine hK.out _ _ ⟨HX.out.at 0 (.int .i64 k) rfl, HX.out.at 1 (.int .i64 f) rfl, HX.out.at 2 (.slice A cs.length ca) rfl, HX.out.at 3 (.slice B ds.length cb) rfl, HP.out.at 0 (.int .i64 m) rfl, HP.out.at 1 (.int .u8 s) rfl, HP.out.at 2 (.int .i64 nd) rfl, HA.out.at 0 (.int .i64 cpu) rfl, HA.out.at 1 (.int .i64 cur) rfl, HA.out.at 2 (.slice M lm cm) rfl⟩ (fun hHeld => ?_)
          clear hK K
          refine norm_ (a' := ?_) ?_ ?_
          rotate_left
          · show Act.put _ (some 44) _ = _
            simp only [Act.put, List.setIfInBounds_toArray, List.set_cons_zero, List.set_cons_succ, i64_w, i32_w]
            rfl
          refine one_ (i := 3) (N := some 46) #[true, true, true, true, true, true, true, true, true, true, true, true, true, true, true, true, false, false, false, false, true, false, false] rfl rfl (by kernel_rfl) (by decide) (fun K hK => ?_)
          refine goes_ Try.func23 (by kernel_rfl) rfl #[.agg #[.int .i64 m, .int .u8 s, .int .i64 nd]] (by rfl) rfl rfl (by simp only [List.map_toArray, List.map_cons, List.map_nil]; rfl) ?_
          with_reducible refine (messuagelaw11_rule.calls m s nd m s nd _ rfl).mono ?_
          rintro e_ wb ⟨rfl, hb⟩
          refine ⟨_, rfl, ?_⟩
          have n0_ := Aside0.mk (below_then HB.out HB.out.size hb)
          have n1_ := Aside0.mk (HX.out.below hb)
          have n2_ := Aside0.mk (HP.out.below hb)
          have n3_ := Aside0.mk (HA.out.below hb)
          have n4_ := Aside0.mk (Kd.C_below HM.out hb)
          have n5_ := Aside0.mk (below_then HD.out HD.out.size hb)
          have n6_ := Aside0.mk (HT.out.below hb)
          clear HB HX HP HA HM HD HT c0 c1 c2 c3 p0 p1 p2 a0 a1 a2 hb
          have HB := n0_
          have HX := n1_
          have HP := n2_
          have HA := n3_
          have HM := n4_
          have HD := n5_
          have HT := n6_
          clear n0_ n1_ n2_ n3_ n4_ n5_ n6_
          have c0 := HX.out.at 0 (.int .i64 k) rfl
          have c1 := HX.out.at 1 (.int .i64 f) rfl
          have c2 := HX.out.at 2 (.slice A cs.length ca) rfl
          have c3 := HX.out.at 3 (.slice B ds.length cb) rfl
          have p0 := HP.out.at 0 (.int .i64 m) rfl
          have p1 := HP.out.at 1 (.int .u8 s) rfl
          have p2 := HP.out.at 2 (.int .i64 nd) rfl
          have a0 := HA.out.at 0 (.int .i64 cpu) rfl
          have a1 := HA.out.at 1 (.int .i64 cur) rfl
          have a2 := HA.out.at 2 (.slice M lm cm) rfl
          refine hK.out _ _ ⟨HX.out.at 0 (.int .i64 k) rfl, HX.out.at 1 (.int .i64 f) rfl, HX.out.at 2 (.slice A cs.length ca) rfl, HX.out.at 3 (.slice B ds.length cb) rfl, HP.out.at 0 (.int .i64 m) rfl, HP.out.at 1 (.int .u8 s) rfl, HP.out.at 2 (.int .i64 nd) rfl, HA.out.at 0 (.int .i64 cpu) rfl, HA.out.at 1 (.int .i64 cur) rfl, HA.out.at 2 (.slice M lm cm) rfl⟩ (fun hHeld => ?_)
          clear hK K
          refine norm_ (a' := ?_) ?_ ?_
          rotate_left
          · show Act.put _ (some 46) _ = _
            simp only [Act.put, List.setIfInBounds_toArray, List.set_cons_zero, List.set_cons_succ, i64_w, i32_w]
            rfl
          refine one_ (i := 16) (N := some 59) #[true, true, true, true, true, true, true, true, true, true, true, true, true, true, true, true, true, false, false, false, true, false, false] rfl rfl (by kernel_rfl) (by decide) (fun K hK => ?_)
          refine goes_ Try.func21 (by kernel_rfl) rfl #[.agg #[.int .i64 k, .int .i64 f, .slice A cs.length ca, .slice B ds.length cb], .agg #[.int .i64 m, .int .u8 s, .int .i64 nd], .int .i64 (wrap64 ((IntKind.u64.wrap cpu).tmod (cs.length : Int))), .int .i64 cur, .slice (some ⟨g, 0, none⟩) k k] (by rfl) rfl rfl (by simp only [List.map_toArray, List.map_cons, List.map_nil]; rfl) ?_
          with_reducible refine (HND.out _ HB.out HM.out).mono ?_
          rintro e_ wc ⟨rfl, hb⟩
          refine ⟨_, rfl, ?_⟩
          have n0_ := Aside0.mk (below_then HB.out HB.out.size hb)
          have n1_ := Aside0.mk (HX.out.below hb)
          have n2_ := Aside0.mk (HP.out.below hb)
          have n3_ := Aside0.mk (HA.out.below hb)
          have n4_ := Aside0.mk (Kd.C_below HM.out hb)
          have n5_ := Aside0.mk (below_then HD.out HD.out.size hb)
          have n6_ := Aside0.mk (HT.out.below hb)
          clear HB HX HP HA HM HD HT c0 c1 c2 c3 p0 p1 p2 a0 a1 a2 hb
          have HB := n0_
          have HX := n1_
          have HP := n2_
          have HA := n3_
          have HM := n4_
          have HD := n5_
          have HT := n6_
          clear n0_ n1_ n2_ n3_ n4_ n5_ n6_
          have c0 := HX.out.at 0 (.int .i64 k) rfl
          have c1 := HX.out.at 1 (.int .i64 f) rfl
          have c2 := HX.out.at 2 (.slice A cs.length ca) rfl
          have c3 := HX.out.at 3 (.slice B ds.length cb) rfl
          have p0 := HP.out.at 0 (.int .i64 m) rfl
          have p1 := HP.out.at 1 (.int .u8 s) rfl
          have p2 := HP.out.at 2 (.int .i64 nd) rfl
          have a0 := HA.out.at 0 (.int .i64 cpu) rfl
          have a1 := HA.out.at 1 (.int .i64 cur) rfl
          have a2 := HA.out.at 2 (.slice M lm cm) rfl
          refine hK.out _ _ ⟨HX.out.at 0 (.int .i64 k) rfl, HX.out.at 1 (.int .i64 f) rfl, HX.out.at 2 (.slice A cs.length ca) rfl, HX.out.at 3 (.slice B ds.length cb) rfl, HP.out.at 0 (.int .i64 m) rfl, HP.out.at 1 (.int .u8 s) rfl, HP.out.at 2 (.int .i64 nd) rfl, HA.out.at 0 (.int .i64 cpu) rfl, HA.out.at 1 (.int .i64 cur) rfl, HA.out.at 2 (.slice M lm cm) rfl⟩ (fun hHeld => ?_)
          clear hK K
          refine norm_ (a' := ?_) ?_ ?_
          rotate_left
          · show Act.put _ (some 59) _ = _
            simp only [Act.put, List.setIfInBounds_toArray, List.set_cons_zero, List.set_cons_succ, i64_w, i32_w]
            rfl
          refine pure_ (i := 17) (N := some 42) (v := ?_) (a' := ?_) #[true, true, true, true, true, true, true, true, true, true, true, true, true, true, true, true, true, true, false, false, true, false, false] rfl rfl (by kernel_rfl) (fun _ _ _ h => h) (Or.inl ⟨by rfl, ?_⟩) ?_ ?_
          rotate_left
          · intro w'
            go_simp
            with_reducible rfl
          rotate_left
          · simp only [Act.put, List.setIfInBounds_toArray, List.set_cons_zero, List.set_cons_succ, i64_w, i32_w]
            rfl
          refine pure_ (i := 18) (N := some 60) (v := ?_) (a' := ?_) #[true, true, true, true, true, true, true, true, true, true, true, true, true, true, true, true, true, true, true, false, true, false, false] rfl rfl (by kernel_rfl) (fun _ _ _ h => h) (Or.inl ⟨by rfl, ?_⟩) ?_ ?_
          rotate_left
          · intro w'
            go_simp
            with_reducible rfl
          rotate_left
          · simp only [Act.put, List.setIfInBounds_toArray, List.set_cons_zero, List.set_cons_succ, i64_w, i32_w]
            rfl
          refine pure_ (i := 19) (N := some 61) (v := ?_) (a' := ?_) #[true, true, true, true, true, true, true, true, true, true, true, true, true, true, true, true, true, true, true, true, true, false, false] rfl rfl (by kernel_rfl) (fun _ _ _ h => h) (Or.inl ⟨by rfl, ?_⟩) ?_ ?_
          rotate_left
          · intro w'
            go_simp
            with_reducible rfl
          rotate_left
          · simp only [Act.put, List.setIfInBounds_toArray, List.set_cons_zero, List.set_cons_succ, i64_w, i32_w]
            rfl
          exact norm_ (by simp only [putAll, Act.put, List.setIfInBounds_toArray, List.set_cons_zero, List.set_cons_succ]) (hCont wd.heap.size _ ⟨HT.out, HSZ.out, HD.out⟩)
      rintro tb wj ⟨hT, hS, hD⟩
      have HT := Aside0.mk hT
      have HSB := Aside0.mk hS
      have HD2 := Aside0.mk hD
      clear hT hS hD
      have t0 := HT.out.at 0 (.int .i64 0) rfl
      have t1 := HT.out.at 1 (.int .i64 0) rfl
      have t2 := HT.out.at 2 (.int .i64 0) rfl
      have g0 := HT.out.fz 0
      have g1 := HT.out.fz 1
      have g2 := HT.out.fz 2
      have hHeld : wj.cell? ⟨w.heap.size, 0, none⟩ = some (.int .i64 k) ∧ wj.cell? ⟨w.heap.size, 1, none⟩ = some (.int .i64 f) ∧ wj.cell? ⟨w.heap.size, 2, none⟩ = some (.slice A cs.length ca) ∧ wj.cell? ⟨w.heap.size, 3, none⟩ = some (.slice B ds.length cb) ∧ wj.cell? ⟨w.heap.size + 1, 0, none⟩ = some (.int .i64 m) ∧ wj.cell? ⟨w.heap.size + 1, 1, none⟩ = some (.int .u8 s) ∧ wj.cell? ⟨w.heap.size + 1, 2, none⟩ = some (.int .i64 nd) ∧ wj.cell? ⟨w.heap.size + 1 + 1, 0, none⟩ = some (.int .i64 cpu) ∧ wj.cell? ⟨w.heap.size + 1 + 1, 1, none⟩ = some (.int .i64 cur) ∧ wj.cell? ⟨w.heap.size + 1 + 1, 2, none⟩ = some (.slice M lm cm) := ⟨(HX.out.below HD2.out).at 0 (.int .i64 k) rfl, (HX.out.below HD2.out).at 1 (.int .i64 f) rfl, (HX.out.below HD2.out).at 2 (.slice A cs.length ca) rfl, (HX.out.below HD2.out).at 3 (.slice B ds.length cb) rfl, (HP.out.below HD2.out).at 0 (.int .i64 m) rfl, (HP.out.below HD2.out).at 1 (.int .u8 s) rfl, (HP.out.below HD2.out).at 2 (.int .i64 nd) rfl, (HA.out.below HD2.out).at 0 (.int .i64 cpu) rfl, (HA.out.below HD2.out).at 1 (.int .i64 cur) rfl, (HA.out.below HD2.out).at 2 (.slice M lm cm) rfl⟩
      refine norm_ (a' := ?_) ?_ ?_
      rotate_left
      · simp only [putAll, Act.put, List.setIfInBounds_toArray, List.set_cons_zero, List.set_cons_succ]
        rfl
      refine last_ (i := 21) (N := none) #[true, true, true, true, true, true, true, true, true, true, true, true, true, true, true, true, true, true, true, true, true, true, false] rfl rfl (by kernel_rfl) (by decide) (fun K hK => ?_)
      refine skip_ (w1 := ?_) (by rfl) rfl ?_ ?_
      rotate_left
      · go_simp
        rfl
      refine hK.out _ _ ?_
      clear hK K
      refine pure_ (i := 22) (N := some 10) (v := ?_) (a' := ?_) #[true, true, true, true, true, true, true, true, true, true, true, true, true, true, true, true, true, true, true, true, true, true, true] rfl rfl (by kernel_rfl) (fun _ _ _ h => h) (Or.inl ⟨by rfl, ?_⟩) ?_ ?_
      rotate_left
      · intro w'
        go_simp
        with_reducible rfl
      rotate_left
      · simp only [Act.put, List.setIfInBounds_toArray, List.set_cons_zero, List.set_cons_succ, i64_w, i32_w]
        rfl
      refine done_ (by kernel_rfl) ?_
      have hb_ := below_put3 HD2.out HSB.out (.int .i64 v0) (.int .i64 v1) (.int .i64 v2)
      have HT3 := Aside0.mk (HT.out.put3 (.int .i64 v0) (.int .i64 v1) (.int .i64 v2))
      clear HT t0 t1 t2 g0 g1 g2 hHeld
      have n0_ := Aside0.mk (below_then HB.out HB.out.size hb_)
      have n1_ := Aside0.mk (HX.out.below hb_)
      have n2_ := Aside0.mk (HP.out.below hb_)
      have n3_ := Aside0.mk (HA.out.below hb_)
      have n4_ := Aside0.mk (Kd.C_below HM.out hb_)
      clear HB HX HP HA HM c0 c1 c2 c3 p0 p1 p2 a0 a1 a2 hb_
      have HB := n0_
      have HX := n1_
      have HP := n2_
      have HA := n3_
      have HM := n4_
      clear n0_ n1_ n2_ n3_ n4_
      have c0 := HX.out.at 0 (.int .i64 k) rfl
      have c1 := HX.out.at 1 (.int .i64 f) rfl
      have c2 := HX.out.at 2 (.slice A cs.length ca) rfl
      have c3 := HX.out.at 3 (.slice B ds.length cb) rfl
      have p0 := HP.out.at 0 (.int .i64 m) rfl
      have p1 := HP.out.at 1 (.int .u8 s) rfl
      have p2 := HP.out.at 2 (.int .i64 nd) rfl
      have a0 := HA.out.at 0 (.int .i64 cpu) rfl
      have a1 := HA.out.at 1 (.int .i64 cur) rfl
      have a2 := HA.out.at 2 (.slice M lm cm) rfl
      clear HD2 HSB HD
      have HT := HT3
      clear HT3
      generalize ((wj.setCell ⟨tb, 0, none⟩ (.int .i64 v0)).setCell ⟨tb, 1, none⟩ (.int .i64 v1)).setCell ⟨tb, 2, none⟩ (.int .i64 v2) = wz at *
      obtain ⟨hh, hhv⟩ : ∃ hh, hasB (permR m s k) (q : Int) = hh := ⟨_, rfl⟩
      have hV := HVV.out
      rw [hhv] at hV
      obtain ⟨pm, hpm⟩ : ∃ pm, permR m s k = pm := ⟨_, rfl⟩
      rw [hpm] at hhv
      have HPM := Aside0.mk (show ∀ W : World, Calls Try.prog 26 #[.agg #[.int .i64 m, .int .u8 s, .int .i64 nd], .int .i64 k] W (fun e w' => e = .returned (.int .u8 pm) ∧ RowKit.Below W.heap.size W w') from fun W => messuageref10_Permitted.calls 20 m s nd k pm W (by rw [rperm_f m s nd k h8, hpm]))
      have HHA := Aside0.mk (show ∀ W : World, Calls Try.prog 27 #[.int .u8 pm, .int .i64 q] W (fun e w' => e = .returned (.bool hh) ∧ Drawn0 W w') from fun W => messuageref01_Has.calls pm q hh W (by rw [has_f, hhv]))
      clear hhv hpm HVV HND HCV hpe hiw
      cases hh with
      | true =>
        obtain ⟨rfl, rfl, rfl, rfl⟩ : v0 = (q : Int) ∧ v1 = (a : Int) ∧ v2 = y ∧ er = 0 := by simpa using hV
        clear hV
        have b2 : ((q : Int) == (q : Int)) = true := by simp
        have t0 := HT.out.at 0 (.int .i64 q) rfl
        go_wp2_with (first | (go_at_call 26; (with_reducible refine (HPM.out _).mono ?_); rintro e_ w8 ⟨rfl, hb⟩; have n0_ := Aside0.mk (below_then HB.out HB.out.size hb); have n1_ := Aside0.mk (HX.out.below hb); have n2_ := Aside0.mk (HP.out.below hb); have n3_ := Aside0.mk (HA.out.below hb); have n4_ := Aside0.mk (HT.out.below hb); clear HB HX HP HA HT c0 c1 c2 c3 p0 p1 p2 a0 a1 a2 t0 hb; have HB := n0_; have HX := n1_; have HP := n2_; have HA := n3_; have HT := n4_; clear n0_ n1_ n2_ n3_ n4_; have c0 := HX.out.at 0 (.int .i64 k) rfl; have c1 := HX.out.at 1 (.int .i64 f) rfl; have c2 := HX.out.at 2 (.slice A cs.length ca) rfl; have c3 := HX.out.at 3 (.slice B ds.length cb) rfl; have p0 := HP.out.at 0 (.int .i64 m) rfl; have p1 := HP.out.at 1 (.int .u8 s) rfl; have p2 := HP.out.at 2 (.int .i64 nd) rfl; have a0 := HA.out.at 0 (.int .i64 cpu) rfl; have a1 := HA.out.at 1 (.int .i64 cur) rfl; have a2 := HA.out.at 2 (.slice M lm cm) rfl; have t0 := HT.out.at 0 (.int .i64 q) rfl) | (go_at_call 27; (with_reducible refine (HHA.out _).mono ?_); rintro e_ w9 ⟨rfl, hb0⟩; have hb := hb0.below; clear hb0; have n0_ := Aside0.mk (below_then HB.out HB.out.size hb); have n1_ := Aside0.mk (HX.out.below hb); have n2_ := Aside0.mk (HP.out.below hb); have n3_ := Aside0.mk (HA.out.below hb); have n4_ := Aside0.mk (HT.out.below hb); clear HB HX HP HA HT c0 c1 c2 c3 p0 p1 p2 a0 a1 a2 t0 hb; have HB := n0_; have HX := n1_; have HP := n2_; have HA := n3_; have HT := n4_; clear n0_ n1_ n2_ n3_ n4_; have c0 := HX.out.at 0 (.int .i64 k) rfl; have c1 := HX.out.at 1 (.int .i64 f) rfl; have c2 := HX.out.at 2 (.slice A cs.length ca) rfl; have c3 := HX.out.at 3 (.slice B ds.length cb) rfl; have p0 := HP.out.at 0 (.int .i64 m) rfl; have p1 := HP.out.at 1 (.int .u8 s) rfl; have p2 := HP.out.at 2 (.int .i64 nd) rfl; have a0 := HA.out.at 0 (.int .i64 cpu) rfl; have a1 := HA.out.at 1 (.int .i64 cur) rfl; have a2 := HA.out.at 2 (.slice M lm cm) rfl; have t0 := HT.out.at 0 (.int .i64 q) rfl))
        go_ret
        exact ⟨rfl, HB.out⟩
      | false =>
        obtain ⟨rfl, rfl, rfl, rfl⟩ : v0 = 0 ∧ v1 = (a : Int) ∧ v2 = y ∧ er = 5 := by simpa using hV
        clear hV
        have t0 := HT.out.at 0 (.int .i64 0) rfl
        go_wp2_with (first | (go_at_call 26; (with_reducible refine (HPM.out _).mono ?_); rintro e_ w8 ⟨rfl, hb⟩; have n0_ := Aside0.mk (below_then HB.out HB.out.size hb); have n1_ := Aside0.mk (HX.out.below hb); have n2_ := Aside0.mk (HP.out.below hb); have n3_ := Aside0.mk (HA.out.below hb); have n4_ := Aside0.mk (HT.out.below hb); clear HB HX HP HA HT c0 c1 c2 c3 p0 p1 p2 a0 a1 a2 t0 hb; have HB := n0_; have HX := n1_; have HP := n2_; have HA := n3_; have HT := n4_; clear n0_ n1_ n2_ n3_ n4_; have c0 := HX.out.at 0 (.int .i64 k) rfl; have c1 := HX.out.at 1 (.int .i64 f) rfl; have c2 := HX.out.at 2 (.slice A cs.length ca) rfl; have c3 := HX.out.at 3 (.slice B ds.length cb) rfl; have p0 := HP.out.at 0 (.int .i64 m) rfl; have p1 := HP.out.at 1 (.int .u8 s) rfl; have p2 := HP.out.at 2 (.int .i64 nd) rfl; have a0 := HA.out.at 0 (.int .i64 cpu) rfl; have a1 := HA.out.at 1 (.int .i64 cur) rfl; have a2 := HA.out.at 2 (.slice M lm cm) rfl; have t0 := HT.out.at 0 (.int .i64 0) rfl) | (go_at_call 27; (with_reducible refine (HHA.out _).mono ?_); rintro e_ w9 ⟨rfl, hb0⟩; have hb := hb0.below; clear hb0; have n0_ := Aside0.mk (below_then HB.out HB.out.size hb); have n1_ := Aside0.mk (HX.out.below hb); have n2_ := Aside0.mk (HP.out.below hb); have n3_ := Aside0.mk (HA.out.below hb); have n4_ := Aside0.mk (HT.out.below hb); clear HB HX HP HA HT c0 c1 c2 c3 p0 p1 p2 a0 a1 a2 t0 hb; have HB := n0_; have HX := n1_; have HP := n2_; have HA := n3_; have HT := n4_; clear n0_ n1_ n2_ n3_ n4_; have c0 := HX.out.at 0 (.int .i64 k) rfl; have c1 := HX.out.at 1 (.int .i64 f) rfl; have c2 := HX.out.at 2 (.slice A cs.length ca) rfl; have c3 := HX.out.at 3 (.slice B ds.length cb) rfl; have p0 := HP.out.at 0 (.int .i64 m) rfl; have p1 := HP.out.at 1 (.int .u8 s) rfl; have p2 := HP.out.at 2 (.int .i64 nd) rfl; have a0 := HA.out.at 0 (.int .i64 cpu) rfl; have a1 := HA.out.at 1 (.int .i64 cur) rfl; have a2 := HA.out.at 2 (.slice M lm cm) rfl; have t0 := HT.out.at 0 (.int .i64 0) rfl))
        go_ret
        exact ⟨rfl, HB.out⟩
    · have b1 : (pe != 0) = true := by simpa using hp0
      clear hpe HCV
      go_wp2_with (first | (go_at_call 25; (with_reducible refine (chooses_own _).mono ?_); rintro e_ w5 ⟨rfl, hb⟩; have n0_ := Aside0.mk (below_then HB.out HB.out.size hb); have n1_ := Aside0.mk (HX.out.below hb); have n2_ := Aside0.mk (HP.out.below hb); have n3_ := Aside0.mk (HA.out.below hb); clear HB HX HP HA c0 c1 c2 c3 p0 p1 p2 a0 a1 a2 hb; have HB := n0_; have HX := n1_; have HP := n2_; have HA := n3_; clear n0_ n1_ n2_ n3_; have c0 := HX.out.at 0 (.int .i64 k) rfl; have c1 := HX.out.at 1 (.int .i64 f) rfl; have c2 := HX.out.at 2 (.slice A cs.length ca) rfl; have c3 := HX.out.at 3 (.slice B ds.length cb) rfl; have p0 := HP.out.at 0 (.int .i64 m) rfl; have p1 := HP.out.at 1 (.int .u8 s) rfl; have p2 := HP.out.at 2 (.int .i64 nd) rfl; have a0 := HA.out.at 0 (.int .i64 cpu) rfl; have a1 := HA.out.at 1 (.int .i64 cur) rfl; have a2 := HA.out.at 2 (.slice M lm cm) rfl) | (go_at_call 16; (with_reducible refine (HCK.out _ HB.out).mono ?_); rintro e_ w6 ⟨rfl, hb⟩; have n0_ := Aside0.mk (below_then HB.out HB.out.size hb); have n1_ := Aside0.mk (HX.out.below hb); have n2_ := Aside0.mk (HP.out.below hb); have n3_ := Aside0.mk (HA.out.below hb); clear HB HX HP HA c0 c1 c2 c3 p0 p1 p2 a0 a1 a2 hb; have HB := n0_; have HX := n1_; have HP := n2_; have HA := n3_; clear n0_ n1_ n2_ n3_; have c0 := HX.out.at 0 (.int .i64 k) rfl; have c1 := HX.out.at 1 (.int .i64 f) rfl; have c2 := HX.out.at 2 (.slice A cs.length ca) rfl; have c3 := HX.out.at 3 (.slice B ds.length cb) rfl; have p0 := HP.out.at 0 (.int .i64 m) rfl; have p1 := HP.out.at 1 (.int .u8 s) rfl; have p2 := HP.out.at 2 (.int .i64 nd) rfl; have a0 := HA.out.at 0 (.int .i64 cpu) rfl; have a1 := HA.out.at 1 (.int .i64 cur) rfl; have a2 := HA.out.at 2 (.slice M lm cm) rfl) | (go_at_call 29; (with_reducible refine (HPE.out _).mono ?_); rintro e_ w7 ⟨rfl, hb⟩; have n0_ := Aside0.mk (below_then HB.out HB.out.size hb); have n1_ := Aside0.mk (HX.out.below hb); have n2_ := Aside0.mk (HP.out.below hb); have n3_ := Aside0.mk (HA.out.below hb); clear HB HX HP HA c0 c1 c2 c3 p0 p1 p2 a0 a1 a2 hb; have HB := n0_; have HX := n1_; have HP := n2_; have HA := n3_; clear n0_ n1_ n2_ n3_; have c0 := HX.out.at 0 (.int .i64 k) rfl; have c1 := HX.out.at 1 (.int .i64 f) rfl; have c2 := HX.out.at 2 (.slice A cs.length ca) rfl; have c3 := HX.out.at 3 (.slice B ds.length cb) rfl; have p0 := HP.out.at 0 (.int .i64 m) rfl; have p1 := HP.out.at 1 (.int .u8 s) rfl; have p2 := HP.out.at 2 (.int .i64 nd) rfl; have a0 := HA.out.at 0 (.int .i64 cpu) rfl; have a1 := HA.out.at 1 (.int .i64 cur) rfl; have a2 := HA.out.at 2 (.slice M lm cm) rfl))
      go_ret
      exact ⟨rfl, HB.out⟩
  · have b1 : (c != 0) = true := by simpa using hc0
    clear HCV
    go_wp2_with (first | (go_at_call 25; (with_reducible refine (chooses_own _).mono ?_); rintro e_ w5 ⟨rfl, hb⟩; have n0_ := Aside0.mk (below_then HB.out HB.out.size hb); have n1_ := Aside0.mk (HX.out.below hb); have n2_ := Aside0.mk (HP.out.below hb); have n3_ := Aside0.mk (HA.out.below hb); clear HB HX HP HA c0 c1 c2 c3 p0 p1 p2 a0 a1 a2 hb; have HB := n0_; have HX := n1_; have HP := n2_; have HA := n3_; clear n0_ n1_ n2_ n3_; have c0 := HX.out.at 0 (.int .i64 n) rfl; have c1 := HX.out.at 1 (.int .i64 f) rfl; have c2 := HX.out.at 2 (.slice A cs.length ca) rfl; have c3 := HX.out.at 3 (.slice B ds.length cb) rfl; have p0 := HP.out.at 0 (.int .i64 m) rfl; have p1 := HP.out.at 1 (.int .u8 s) rfl; have p2 := HP.out.at 2 (.int .i64 nd) rfl; have a0 := HA.out.at 0 (.int .i64 cpu) rfl; have a1 := HA.out.at 1 (.int .i64 cur) rfl; have a2 := HA.out.at 2 (.slice M lm cm) rfl) | (go_at_call 16; (with_reducible refine (HCK.out _ HB.out).mono ?_); rintro e_ w6 ⟨rfl, hb⟩; have n0_ := Aside0.mk (below_then HB.out HB.out.size hb); have n1_ := Aside0.mk (HX.out.below hb); have n2_ := Aside0.mk (HP.out.below hb); have n3_ := Aside0.mk (HA.out.below hb); clear HB HX HP HA c0 c1 c2 c3 p0 p1 p2 a0 a1 a2 hb; have HB := n0_; have HX := n1_; have HP := n2_; have HA := n3_; clear n0_ n1_ n2_ n3_; have c0 := HX.out.at 0 (.int .i64 n) rfl; have c1 := HX.out.at 1 (.int .i64 f) rfl; have c2 := HX.out.at 2 (.slice A cs.length ca) rfl; have c3 := HX.out.at 3 (.slice B ds.length cb) rfl; have p0 := HP.out.at 0 (.int .i64 m) rfl; have p1 := HP.out.at 1 (.int .u8 s) rfl; have p2 := HP.out.at 2 (.int .i64 nd) rfl; have a0 := HA.out.at 0 (.int .i64 cpu) rfl; have a1 := HA.out.at 1 (.int .i64 cur) rfl; have a2 := HA.out.at 2 (.slice M lm cm) rfl))
    go_ret
    exact ⟨rfl, HB.out⟩
end Go.Proofs.Ytffmhpfdfcpniaa.T
