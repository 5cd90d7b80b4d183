/- The law ChooseRound, walked. -/
import Derived.Test.YtffmhpfdfcpniaaAH
import Derived.Deep.DeepCutAuto
namespace Go.Proofs.Ytffmhpfdfcpniaa.T
open Go.RowKit Go.Proofs.YtffmhpfdfcpniaaW.PrintWords Go.Proofs.YtffmhpfdfcpniaaW.PrintLast Go.Proofs.YtffmhpfdfcpniaaW.PrintMore Go.Proofs.Ytffmhpfdfcpniaa.PH
set_option linter.unusedVariables false
set_option linter.unusedSimpArgs false
/-- What choose.Node answers of a machine and a policy that are ones, for a CPU that is one. -/
theorem chV_good {k : Nat} {f : Int} {cs : List Int} {ds : List (List Int)} {m : Int} {s : Nat} (hs : s < 256) {nd : Int} {i : Nat} {cur : Int} {may : List Bool} (hc : chk (k : Int) f cs ds = 0) (hp0 : polR m s nd k = 0) (hi : i < cs.length) :
    ∃ (a : Nat) (y : Int), a < k ∧ 1 ≤ k ∧ k ≤ 8 ∧ Far ds a k ∧ ds.length = k ∧ startR m s nd (rd cs (i : Int)) cur = ((a : Int), y) ∧ (∀ b, b < k → fit ds a b) ∧
      chV (k : Int) f cs ds m s nd (i : Int) cur may = ((nearR may (inL (permR m s k) (ordL ds a k))).getD 0, (a : Int), y, if (nearR may (inL (permR m s k) (ordL ds a k))).isSome = true then 0 else 5) := by
  obtain ⟨k', hk', h1, h8, hdl, hrl, hfits⟩ := chk_zero hc
  obtain rfl : k = k' := by omega
  obtain ⟨oi, o2⟩ : 0 ≤ rd cs (i : Int) ∧ rd cs (i : Int) < k := by
    unfold rd
    rw [Int.toNat_natCast, List.getD_eq_getElem?_getD, List.getElem?_eq_getElem hi]
    exact chk_cpus hc _ (List.getElem_mem hi)
  obtain ⟨x0, xk⟩ := start_in m s hs nd k h1 h8 (rd cs (i : Int)) cur oi o2 hp0
  obtain ⟨st, hst⟩ : ∃ st, startR m s nd (rd cs (i : Int)) cur = st := ⟨_, rfl⟩
  obtain ⟨x, y⟩ := st
  rw [hst] at x0 xk
  simp only at x0 xk
  obtain ⟨a, rfl⟩ : ∃ a : Nat, x = (a : Int) := ⟨x.toNat, by omega⟩
  have he0 : erN (k : Int) f cs ds (a : Int) = 0 := by unfold erN; rw [if_pos hc, if_neg (by omega)]
  obtain ⟨k', a', hk', ha', hak, _, _, _, hf⟩ := er_zero he0
  obtain rfl : k = k' := by omega
  obtain rfl : a = a' := by omega
  refine ⟨a, y, hak, h1, h8, hf, hdl, hst, hfits a hak, ?_⟩
  unfold chV
  rw [if_pos hc, if_neg (by omega), if_pos hp0, hst, Int.toNat_natCast, Int.toNat_natCast]
theorem rem_in (c : Int) (k : Nat) (h1 : 1 ≤ k) (h8 : k ≤ 1000) : ∃ q : Nat, wrap64 ((IntKind.u64.wrap c).tmod (k : Int)) = (q : Int) ∧ q < k := by
  have h0 : 0 ≤ IntKind.u64.wrap c := by
    have : IntKind.u64.wrap c = c % 18446744073709551616 := by simp [IntKind.wrap, IntKind.bits, IntKind.signed]
    omega
  have e := Int.tmod_eq_emod_of_nonneg h0 (b := (k : Int))
  have hk : (0 : Int) < k := by omega
  have r0 := Int.emod_nonneg (IntKind.u64.wrap c) (show (k : Int) ≠ 0 by omega)
  have r1 := Int.emod_lt_of_pos (IntKind.u64.wrap c) hk
  rw [e, wrap_s _ (by omega) (by omega)]
  exact ⟨((IntKind.u64.wrap c) % k).toNat, by omega, by omega⟩
theorem chk_len {n f : Int} {cpus : List Int} {dist : List (List Int)} (h : chk n f cpus dist = 0) : 1 ≤ cpus.length ∧ cpus.length ≤ 16 := by
  unfold chk at h
  by_cases h1 : countsB n f cpus = true
  · unfold countsB at h1
    simp at h1
    omega
  · rw [if_neg h1] at h; simp at h
theorem Blk.store4 {w : World} {b g : Nat} {cs : Array Value} {t : TypeId} (h : Blk w b cs t) (hp : b ≠ g) (v0 v1 v2 v3 : Value) : Blk ((((w.setCell ⟨g, 0, none⟩ v0).setCell ⟨g, 1, none⟩ v1).setCell ⟨g, 2, none⟩ v2).setCell ⟨g, 3, none⟩ v3) b cs t :=
  (((h.other ⟨g, 0, none⟩ hp v0).other ⟨g, 1, none⟩ hp v1).other ⟨g, 2, none⟩ hp v2).other ⟨g, 3, none⟩ hp v3
theorem Blk.put4 {w : World} {b : Nat} {t : TypeId} {a0 a1 a2 a3 : Value} (h : Blk w b #[a0, a1, a2, a3] t) (v0 v1 v2 v3 : Value) : Blk ((((w.setCell ⟨b, 0, none⟩ v0).setCell ⟨b, 1, none⟩ v1).setCell ⟨b, 2, none⟩ v2).setCell ⟨b, 3, none⟩ v3) b #[v0, v1, v2, v3] t := (((h.set 0 v0).set 1 v1).set 2 v2).set 3 v3
theorem all_nat : ∀ k : Nat, k < 9 → ∃ s : Nat, s < 256 ∧ allS (k : Int) = (s : Int) := by
  intro k hk
  have h : ∀ k : Nat, k < 9 → 0 ≤ allS (k : Int) ∧ allS (k : Int) < 256 := by decide +kernel
  exact ⟨(allS k).toNat, by have := h k hk; omega, by have := h k hk; omega⟩
theorem all_pol : ∀ k : Nat, k < 9 → 1 ≤ k → polR 2 (allS (k : Int)) 0 k = 0 := by decide +kernel
theorem all_next : ∀ k : Nat, k < 9 → ∀ i : Nat, i < k → (nextL (setL (allS (k : Int))) (i : Int)).1 = (((i + 1) % k : Nat) : Int) := by decide +kernel
theorem all_has : ∀ k : Nat, k < 9 → ∀ i : Nat, i < k → hasB (allS (k : Int)) (i : Int) = true := by decide +kernel
def truesL : List Bool := [true, true, true, true, true, true, true, true]
theorem trues_ok : ∀ i : Nat, i < 8 → okB truesL (i : Int) = true := by decide +kernel
/-- Which nodes are chosen, one behind the other. -/
def turnL (k : Nat) : List Int := (List.range k).map (fun j => (((j + 1) % k : Nat) : Int))
theorem turn_get (k i : Nat) (hi : i < k) : (turnL k)[i]? = some (((i + 1) % k : Nat) : Int) := by
  unfold turnL
  rw [List.getElem?_map, List.getElem?_range hi]; rfl
theorem turn_new : ∀ k : Nat, k < 9 → ∀ i : Nat, i < k → (((i + 1) % k : Nat) : Int) ∉ (turnL k).take i := by decide +kernel
theorem round_node {k : Nat} {f : Int} {cs : List Int} {ds : List (List Int)} {s : Nat} (hs : s < 256) (hsk : allS (k : Int) = (s : Int)) {j i : Nat} (hc : chk (k : Int) f cs ds = 0) (hj : j < cs.length) (hi : i < k) :
    chV (k : Int) f cs ds 2 s 0 (j : Int) (i : Int) truesL = ((((i + 1) % k : Nat) : Int), (((i + 1) % k : Nat) : Int), (((i + 1) % k : Nat) : Int), 0) := by
  obtain ⟨k', hk', h1, h8, _, _, _⟩ := chk_zero hc
  obtain rfl : k = k' := by omega
  have hp0 : polR 2 s 0 k = 0 := by rw [← hsk]; exact all_pol k (by omega) h1
  obtain ⟨a, y, hak, _, _, hf, hdl, hst, hfit, hV⟩ := chV_good (m := 2) (nd := 0) (cur := (i : Int)) (may := truesL) hs hc hp0 hj
  have hq : (i + 1) % k < k := Nat.mod_lt _ (by omega)
  unfold startR at hst
  rw [if_pos rfl, ← hsk, all_next k (by omega) i hi] at hst
  obtain ⟨e1, e2⟩ := Prod.mk.inj hst
  obtain rfl : a = (i + 1) % k := by omega
  rw [hV]
  have hfirst := ordL_first ds ((i + 1) % k) k hak hf hfit
  have hfind : nearR truesL (inL (permR 2 s k) (ordL ds ((i + 1) % k) k)) = some (((i + 1) % k : Nat) : Int) := by
    rw [near_both]
    cases hl : ordL ds ((i + 1) % k) k with
    | nil => rw [hl] at hfirst; simp at hfirst
    | cons z t =>
      rw [hl] at hfirst
      obtain rfl : z = (((i + 1) % k : Nat) : Int) := by simpa using hfirst
      rw [List.find?_cons_of_pos]
      unfold bothB permR
      rw [if_neg (by decide), all_has k (by omega) _ hak, trues_ok _ (by omega)]
      rfl
  rw [hfind, ← e2]
  rfl
def RelTn (k : Nat) (w3 : World) (v10 v11 : Value) (wr : World) : Prop :=
  ∃ i : Nat, v11 = .int .i64 i ∧ v10 = .int .i64 (((i % k : Nat) : Int)) ∧ i ≤ k ∧ RowKit.Below w3.heap.size w3 wr ∧ Blk wr w3.heap.size (seenC (turnL k) i) 46
set_option maxHeartbeats 4000000 in
set_option maxRecDepth 100000 in
theorem round_own (n f : Int) (A : Option Addr) (ca : Nat) (cpus : List Int) (B : Option Addr) (cb : Nat) (dist : List (List Int)) (E : Option Addr) (ce : Nat) (asks : List Int) (w : World) (hr2 : Kd.C (Kd.int .i64) w A cpus.length cpus) (hca : cpus.length ≤ ca) (hr3 : Kd.C (Kd.slice 3 (Kd.int .i64)) w B dist.length dist) (hcb : dist.length ≤ cb) (hre : Kd.C (Kd.int .i64) w E asks.length asks) :
    Calls Try.prog 8 #[.agg #[.int .i64 n, .int .i64 f, .slice A cpus.length ca, .slice B dist.length cb], .slice E asks.length ce] w fun e w' => e = .returned (.bool true) ∧ RowKit.Below w.heap.size w w' := by
  obtain ⟨cs, hcs⟩ : ∃ cs, cpus.take 20 = cs := ⟨_, rfl⟩
  obtain ⟨ds, hds⟩ : ∃ ds, dist.take 10 = ds := ⟨_, rfl⟩
  obtain ⟨le, hle⟩ : ∃ le, asks.length = le := ⟨_, rfl⟩
  have h20 : min cpus.length 20 = cs.length := by rw [← hcs, List.length_take]; omega
  have h10 : min dist.length 10 = ds.length := by rw [← hds, List.length_take]; omega
  have HTM := Aside0.mk (fun (W : World) => tame11_own n f A cpus.length ca B dist.length cb cs.length ds.length W h20 h10 hca hcb hr2.2.1 hr3.2.1)
  have HC2 := Aside0.mk (show Kd.C (Kd.int .i64) w A cs.length cs from hcs ▸ C_take' hr2 20)
  have HC3 := Aside0.mk (show Kd.C (Kd.slice 3 (Kd.int .i64)) w B ds.length ds from hds ▸ C_take' hr3 10)
  have HCE := Aside0.mk hre
  have hca' : cs.length ≤ ca := by omega
  have hcb' : ds.length ≤ cb := by omega
  obtain ⟨c, hc⟩ : ∃ c, chk n f cs ds = c := ⟨_, rfl⟩
  have HCK := Aside0.mk (show ∀ W : World, RowKit.Below w.heap.size w W → Calls Try.prog 16 #[.agg #[.int .i64 n, .int .i64 f, .slice A cs.length ca, .slice B ds.length cb]] W (fun e w' => e = .returned (.int .i64 c) ∧ RowKit.Below W.heap.size W w') from fun W hW =>
    messuageref03_Check.calls 200 n f A ca cs B cb ds c W (Kd.C_below HC2.out hW) hca' (Kd.C_below HC3.out hW) hcb' (by rw [r03_f n f cs ds HC3.out.2.1 HC2.out.2.1, hc]))
  have HCV := Aside0.mk hc
  rw [hle]
  rw [hle] at HCE
  clear hr2 hr3 hre h20 h10 hcs hds hle hc
  go_enter Try.func8, Try.ntmps8
  go_upto_region 2 with (go_at_call 20; (with_reducible refine (HTM.out _).mono ?_); rintro e_ w2 ⟨rfl, hb⟩; have HX := Aside0.mk ((Blk.new w #[.int .i64 n, .int .i64 f, .slice A cpus.length ca, .slice B dist.length cb] 25).below hb); have HB := Aside0.mk (below_then (below_alloc (RowKit.Below.refl w.heap.size w) _) (below_alloc (RowKit.Below.refl w.heap.size w) _).size hb); clear hb; have c0 := HX.out.at 0 (.int .i64 n) rfl; have c1 := HX.out.at 1 (.int .i64 f) rfl; have c2 := HX.out.at 2 (.slice A cpus.length ca) rfl; have c3 := HX.out.at 3 (.slice B dist.length cb) rfl; have f0 := HX.out.fz 0; have f1 := HX.out.fz 1; have f2 := HX.out.fz 2; have f3 := HX.out.fz 3)
  have n0_ := Aside0.mk (HX.out.put4 (.int .i64 n) (.int .i64 f) (.slice A cs.length ca) (.slice B ds.length cb))
  have n3_ := Aside0.mk (below_store HB.out (Nat.le_refl _) (.int .i64 n) (.int .i64 f) (.slice A cs.length ca) (.slice B ds.length cb))
  clear HX HB c0 c1 c2 c3 f0 f1 f2 f3
  generalize (((w2.setCell { block := w.heap.size, off := 0 } (Value.int IntKind.i64 n)).setCell { block := w.heap.size, off := 1 } (Value.int IntKind.i64 f)).setCell { block := w.heap.size, off := 2 } (Value.slice A cs.length ca)).setCell { block := w.heap.size, off := 3 } (Value.slice B ds.length cb) = W at *
  have HX := n0_
  have HB := n3_
  clear n0_ n3_ HTM
  have c0 := HX.out.at 0 (.int .i64 n) rfl
  have c1 := HX.out.at 1 (.int .i64 f) rfl
  have c2 := HX.out.at 2 (.slice A cs.length ca) rfl
  have c3 := HX.out.at 3 (.slice B ds.length cb) rfl
  by_cases hc0 : c = 0
  · subst hc0
    obtain ⟨k, rfl, h1, h8, hx1, hx2, hx3⟩ := chk_zero HCV.out
    clear hx1 hx2 hx3
    obtain ⟨s, hs, hsk⟩ := all_nat k (by omega)
    have HAL := Aside0.mk (show ∀ W : World, Calls Try.prog 28 #[.int .i64 k] W (fun e w' => e = .returned (.tuple #[.int .u8 s, .int .i64 0]) ∧ Drawn0 W w') from fun W => nodeset_All.calls k s 0 W (by rw [all_f k h8, hsk]))
    have HSK := Aside0.mk hsk
    clear hsk
    go_upto_region 5 with (first | (go_at_call 25; (with_reducible refine (chooses_own _).mono ?_); rintro e_ w5 ⟨rfl, hb⟩; have n0_ := Aside0.mk (below_then HB.out HB.out.size hb); have n1_ := Aside0.mk (HX.out.below hb); clear HB HX c0 c1 c2 c3 hb; have HB := n0_; have HX := n1_; clear n0_ n1_; have c0 := HX.out.at 0 (.int .i64 k) rfl; have c1 := HX.out.at 1 (.int .i64 f) rfl; have c2 := HX.out.at 2 (.slice A cs.length ca) rfl; have c3 := HX.out.at 3 (.slice B ds.length cb) rfl) | (go_at_call 16; (with_reducible refine (HCK.out _ HB.out).mono ?_); rintro e_ w6 ⟨rfl, hb⟩; have n0_ := Aside0.mk (below_then HB.out HB.out.size hb); have n1_ := Aside0.mk (HX.out.below hb); clear HB HX c0 c1 c2 c3 hb; have HB := n0_; have HX := n1_; clear n0_ n1_; have c0 := HX.out.at 0 (.int .i64 k) rfl; have c1 := HX.out.at 1 (.int .i64 f) rfl; have c2 := HX.out.at 2 (.slice A cs.length ca) rfl; have c3 := HX.out.at 3 (.slice B ds.length cb) rfl) | (go_at_call 28; (with_reducible refine (HAL.out _).mono ?_); rintro e_ w7 ⟨rfl, hb0⟩; have hb := hb0.below; clear hb0; have n0_ := Aside0.mk (below_then HB.out HB.out.size hb); have n1_ := Aside0.mk (HX.out.below hb); clear HB HX c0 c1 c2 c3 hb; have HB := n0_; have HX := n1_; clear n0_ n1_; have c0 := HX.out.at 0 (.int .i64 k) rfl; have c1 := HX.out.at 1 (.int .i64 f) rfl; have c2 := HX.out.at 2 (.slice A cs.length ca) rfl; have c3 := HX.out.at 3 (.slice B ds.length cb) rfl))
    obtain ⟨l1, l16⟩ := chk_len HCV.out
    go_upto_region 7 with fail
    have m0 := Aside0.mk ((Blk.new w7 #[.int .i64 2, .int .u8 s, .int .i64 0] 57).alloc (.cells #[.bool true, .bool true, .bool true, .bool true, .bool true, .bool true, .bool true, .bool true] 4))
    have m1 := Aside0.mk (Blk.new1 w7 (.cells #[.int .i64 2, .int .u8 s, .int .i64 0] 57) #[.bool true, .bool true, .bool true, .bool true, .bool true, .bool true, .bool true, .bool true] 4)
    have hb := below_alloc (below_alloc (RowKit.Below.refl w7.heap.size w7) (.cells #[.int .i64 2, .int .u8 s, .int .i64 0] 57)) (.cells #[.bool true, .bool true, .bool true, .bool true, .bool true, .bool true, .bool true, .bool true] 4)
    have n0_ := Aside0.mk (below_then HB.out HB.out.size hb)
    have n1_ := Aside0.mk (HX.out.below hb)
    clear HB HX c0 c1 c2 c3 hb
    have HB := n0_
    have HX := n1_
    clear n0_ n1_
    have c0 := HX.out.at 0 (.int .i64 k) rfl
    have c1 := HX.out.at 1 (.int .i64 f) rfl
    have c2 := HX.out.at 2 (.slice A cs.length ca) rfl
    have c3 := HX.out.at 3 (.slice B ds.length cb) rfl
    obtain ⟨tp, htp⟩ : ∃ tp, w7.heap.size = tp := ⟨_, rfl⟩
    rw [htp] at m0 m1 ⊢
    clear htp
    generalize (w7.alloc (.cells #[.int .i64 2, .int .u8 s, .int .i64 0] 57)).alloc (.cells #[.bool true, .bool true, .bool true, .bool true, .bool true, .bool true, .bool true, .bool true] 4) = w3 at *
    have HX0 := HX
    have HB0 := HB
    have HP0 := m0
    have HM0 := Aside0.mk (show Kd.C Kd.bool w3 (some ⟨tp + 1, 0, none⟩) 8 truesL from row_B w3 (tp + 1) 4 truesL m1.out (by decide))
    clear m0 m1 HX HB HCK HAL
    have H0 := Aside0.mk (show RelTn k w3 (.int .i64 0) (.int .i64 0) (w3.alloc (.cells #[.bool false, .bool false, .bool false, .bool false, .bool false, .bool false, .bool false, .bool false] 46)) from ⟨0, rfl, by rw [Nat.zero_mod]; rfl, Nat.zero_le _, below_alloc (RowKit.Below.refl _ _) _, by rw [seen_none]; exact Blk.new _ _ _⟩)
    go_wp2_with fail
    clear c0 c1 c2 c3
    go_loopw [10, 11] (fun v10 v11 wr => RelTn k w3 v10 v11 wr) (fun v10 v11 _ => k - (intOf v11).toNat)
    case atStart => exact H0.out
    case round =>
      clear H0
      obtain ⟨i, rfl, rfl, hi, hB, hS⟩ := hrel
      have HBW := Aside0.mk hB
      have HS := Aside0.mk hS
      clear hB hS
      have HX := Aside0.mk (HX0.out.below HBW.out)
      have HP := Aside0.mk (HP0.out.below HBW.out)
      have HM := Aside0.mk (Kd.C_below HM0.out HBW.out)
      have HB := Aside0.mk (below_then HB0.out HB0.out.size HBW.out)
      have c0 := HX.out.at 0 (.int .i64 k) rfl
      have c1 := HX.out.at 1 (.int .i64 f) rfl
      have c2 := HX.out.at 2 (.slice A cs.length ca) rfl
      have c3 := HX.out.at 3 (.slice B ds.length cb) rfl
      have p0 := HP.out.at 0 (.int .i64 2) rfl
      have p1 := HP.out.at 1 (.int .u8 s) rfl
      have p2 := HP.out.at 2 (.int .i64 0) rfl
      by_cases hik : i < k
      · have hib : decide (i < k) = true := decide_eq_true hik
        rw [Nat.mod_eq_of_lt hik]
        obtain ⟨q, hq⟩ : ∃ q, (i + 1) % k = q := ⟨_, rfl⟩
        have hqk : q < k := by rw [← hq]; exact Nat.mod_lt _ (by omega)
        have HTG := Aside0.mk (show (turnL k)[i]? = some (q : Int) from by rw [← hq]; exact turn_get k i hik)
        have HNW := Aside0.mk (show (q : Int) ∉ (turnL k).take i from by rw [← hq]; exact turn_new k (by omega) i hik)
        have HNI := Aside0.mk (show ∀ (j : Nat), j < cs.length → ∀ (W : World), RowKit.Below w.heap.size w W → Kd.C Kd.bool W (some ⟨tp + 1, 0, none⟩) 8 truesL → Calls Try.prog 21 #[.agg #[.int .i64 k, .int .i64 f, .slice A cs.length ca, .slice B ds.length cb], .agg #[.int .i64 2, .int .u8 s, .int .i64 0], .int .i64 j, .int .i64 i, .slice (some ⟨tp + 1, 0, none⟩) 8 8] W (fun e w' => e = .returned (.tuple #[.agg #[.int .i64 q, .int .i64 q, .int .i64 q], .int .i64 0]) ∧ RowKit.Below W.heap.size W w') from fun j hj W hW hM => by
          have := node_own k f A ca cs B cb ds 2 s hs 0 j i (some ⟨tp + 1, 0, none⟩) 8 truesL W (Kd.C_below HC2.out hW) hca' (Kd.C_below HC3.out hW) hcb' hM
          rw [round_node hs HSK.out HCV.out hj hik, hq] at this
          exact this)
        have HQ := Aside0.mk hq
        clear hq
        have i0 : (0 : Int) ≤ (i : Int) := by omega
        have q0 : (0 : Int) ≤ (q : Int) := by omega
        have q8 : (q : Int) < 8 := by omega
        have dq : decide ((q : Int) < 0) = false := decide_eq_false (by omega)
        have d7 : decide (7 < (q : Int)) = false := decide_eq_false (by omega)
        have d7n : decide (7 < q) = false := decide_eq_false (by omega)
        have qne : ((q : Int) != (q : Int)) = false := by simp
        by_cases hie : i < le
        · have hib2 : decide (i < le) = true := decide_eq_true hie
          obtain ⟨ae, rfl, m1⟩ := Kd.at_int (Kd.C_below HCE.out HB.out) (i : Int) i0 (by omega)
          rw [Int.toNat_natCast] at m1
          obtain ⟨x, hx⟩ : ∃ x, rd asks (i : Int) = x := ⟨_, rfl⟩
          rw [hx] at m1
          clear hx
          obtain ⟨j, hjw, hjl⟩ := rem_in x cs.length l1 (by omega)
          have HND := Aside0.mk (show ∀ (W : World), RowKit.Below w.heap.size w W → Kd.C Kd.bool W (some ⟨tp + 1, 0, none⟩) 8 truesL → Calls Try.prog 21 #[.agg #[.int .i64 k, .int .i64 f, .slice A cs.length ca, .slice B ds.length cb], .agg #[.int .i64 2, .int .u8 s, .int .i64 0], .int .i64 (wrap64 ((IntKind.u64.wrap x).tmod (cs.length : Int))), .int .i64 i, .slice (some ⟨tp + 1, 0, none⟩) 8 8] W (fun e w' => e = .returned (.tuple #[.agg #[.int .i64 q, .int .i64 q, .int .i64 q], .int .i64 0]) ∧ RowKit.Below W.heap.size W w') from fun W hW hM => by rw [hjw]; exact HNI.out j hjl W hW hM)
          have hcw : (cs.length : Int) % 18446744073709551616 = (cs.length : Int) := by omega
          have hcu : IntKind.u64.wrap (cs.length : Int) = (cs.length : Int) := by
            have : IntKind.u64.wrap (cs.length : Int) = (cs.length : Int) % 18446744073709551616 := by simp [IntKind.wrap, IntKind.bits, IntKind.signed]
            omega
          have hcn : ¬ cs = [] := by intro e; rw [e] at l1; simp at l1
          clear hjw hjl
          go_upto_region 14 with fail
          refine start_ (n := 12) (S := fun w' => w'.cell? (ae.add i) = some (.int .i64 x) ∧ w'.cell? ⟨w.heap.size, 2, none⟩ = some (.slice A cs.length ca)) (ds := []) #[false, false, false, false, false, false, false, false, false, false, false, false] (by kernel_rfl) rfl rfl ⟨m1, c2⟩ (fun hHeld => ?_)
          have hd_ := below_drew (RowKit.Below.refl wr.heap.size wr)
          have n0_ := Aside0.mk (below_then HB.out HB.out.size hd_)
          have n1_ := Aside0.mk (HX.out.below hd_)
          have n2_ := Aside0.mk (HP.out.below hd_)
          have n3_ := Aside0.mk (Kd.C_below HM.out hd_)
          have n4_ := Aside0.mk (below_then HBW.out HBW.out.size hd_)
          have n5_ := Aside0.mk (HS.out.below hd_)
          clear HB HX HP HM HBW HS c0 c1 c2 c3 p0 p1 p2 hd_
          have HB := n0_
          have HX := n1_
          have HP := n2_
          have HM := n3_
          have HBW := n4_
          have HS := n5_
          clear n0_ n1_ n2_ n3_ n4_ n5_
          have c0 := HX.out.at 0 (.int .i64 k) rfl
          have c1 := HX.out.at 1 (.int .i64 f) rfl
          have c2 := HX.out.at 2 (.slice A cs.length ca) rfl
          have c3 := HX.out.at 3 (.slice B ds.length cb) rfl
          have p0 := HP.out.at 0 (.int .i64 2) rfl
          have p1 := HP.out.at 1 (.int .u8 s) rfl
          have p2 := HP.out.at 2 (.int .i64 0) rfl
          clear m1
          generalize wr.drew = wq at *
          refine pure_ (i := 0) (N := some 44) (v := ?_) (a' := ?_) #[true, false, false, false, false, false, false, false, false, false, false, false] rfl rfl (by kernel_rfl) (fun _ _ _ h => h) (Or.inl ⟨by rfl, ?_⟩) ?_ ?_
          rotate_left
          · intro w'
            go_simp
            with_reducible rfl
          rotate_left
          · simp only [Act.put, List.setIfInBounds_toArray, List.set_cons_zero, List.set_cons_succ, i64_w, i32_w]
            rfl
          refine pure_ (i := 1) (N := some 45) (v := ?_) (a' := ?_) #[true, true, false, false, false, false, false, false, false, false, false, false] rfl rfl (by kernel_rfl) (fun _ _ _ h => h) (Or.inl ⟨by rfl, ?_⟩) ?_ ?_
          rotate_left
          · intro w'
            go_simp
            with_reducible rfl
          rotate_left
          · simp only [Act.put, List.setIfInBounds_toArray, List.set_cons_zero, List.set_cons_succ, i64_w, i32_w]
            rfl
          refine pure_ (i := 2) (N := some 46) (v := ?_) (a' := ?_) #[true, true, true, false, false, false, false, false, false, false, false, false] rfl rfl (by kernel_rfl) (fun _ _ _ h => h) (Or.inl ⟨by rfl, ?_⟩) ?_ ?_
          rotate_left
          · intro w'
            go_simp
            with_reducible rfl
          rotate_left
          · simp only [Act.put, List.setIfInBounds_toArray, List.set_cons_zero, List.set_cons_succ, i64_w, i32_w]
            rfl
          refine pure_ (i := 5) (N := some 49) (v := ?_) (a' := ?_) #[true, true, true, false, false, true, false, false, false, false, false, false] rfl rfl (by kernel_rfl) (fun _ _ _ h => h) (Or.inl ⟨by rfl, ?_⟩) ?_ ?_
          rotate_left
          · intro w'
            go_simp
            with_reducible rfl
          rotate_left
          · simp only [Act.put, List.setIfInBounds_toArray, List.set_cons_zero, List.set_cons_succ, i64_w, i32_w]
            rfl
          refine take_ (i := 3) (N := some 47) (v := ?_) (a' := ?_) #[true, true, true, true, false, true, false, false, false, false, false, false] rfl rfl (by kernel_rfl) (fun _ _ _ h => h) (Or.inl ⟨by rfl, ?_⟩) hHeld ?_ ?_
          rotate_left
          · rintro w' ⟨s0, s1⟩
            go_simp
            with_reducible rfl
          rotate_left
          · simp only [Act.put, List.setIfInBounds_toArray, List.set_cons_zero, List.set_cons_succ, i64_w, i32_w]
            rfl
          refine pure_ (i := 4) (N := some 48) (v := ?_) (a' := ?_) #[true, true, true, true, true, true, false, false, false, false, false, false] rfl rfl (by kernel_rfl) (fun _ _ _ h => h) (Or.inl ⟨by rfl, ?_⟩) ?_ ?_
          rotate_left
          · intro w'
            go_simp
            with_reducible rfl
          rotate_left
          · simp only [Act.put, List.setIfInBounds_toArray, List.set_cons_zero, List.set_cons_succ, i64_w, i32_w]
            rfl
          refine take_ (i := 6) (N := some 50) (v := ?_) (a' := ?_) #[true, true, true, true, true, true, true, false, false, false, false, false] rfl rfl (by kernel_rfl) (fun _ _ _ h => h) (Or.inl ⟨by rfl, ?_⟩) hHeld ?_ ?_
          rotate_left
          · rintro w' ⟨s0, s1⟩
            go_simp
            with_reducible rfl
          rotate_left
          · simp only [Act.put, List.setIfInBounds_toArray, List.set_cons_zero, List.set_cons_succ, i64_w, i32_w]
            rfl
          refine pure_ (i := 7) (N := some 51) (v := ?_) (a' := ?_) #[true, true, true, true, true, true, true, true, false, false, false, false] rfl rfl (by kernel_rfl) (fun _ _ _ h => h) (Or.inl ⟨by rfl, ?_⟩) ?_ ?_
          rotate_left
          · intro w'
            go_simp
            with_reducible rfl
          rotate_left
          · simp only [Act.put, List.setIfInBounds_toArray, List.set_cons_zero, List.set_cons_succ, i64_w, i32_w]
            rfl
          refine pure_ (i := 8) (N := some 52) (v := ?_) (a' := ?_) #[true, true, true, true, true, true, true, true, true, false, false, false] rfl rfl (by kernel_rfl) (fun _ _ _ h => h) (Or.inl ⟨by rfl, ?_⟩) ?_ ?_
          rotate_left
          · intro w'
            go_simp
            with_reducible rfl
          rotate_left
          · simp only [Act.put, List.setIfInBounds_toArray, List.set_cons_zero, List.set_cons_succ, i64_w, i32_w]
            rfl
          refine pure_ (i := 9) (N := some 53) (v := ?_) (a' := ?_) #[true, true, true, true, true, true, true, true, true, true, false, false] rfl rfl (by kernel_rfl) (fun _ _ _ h => h) (Or.inl ⟨by rfl, ?_⟩) ?_ ?_
          rotate_left
          · intro w'
            go_simp
            with_reducible rfl
          rotate_left
          · simp only [Act.put, List.setIfInBounds_toArray, List.set_cons_zero, List.set_cons_succ, i64_w, i32_w]
            rfl
          refine pure_ (i := 10) (N := some 54) (v := ?_) (a' := ?_) #[true, true, true, true, true, true, true, true, true, true, true, false] rfl rfl (by kernel_rfl) (fun _ _ _ h => h) (Or.inl ⟨by rfl, ?_⟩) ?_ ?_
          rotate_left
          · intro w'
            go_simp
            with_reducible rfl
          rotate_left
          · simp only [Act.put, List.setIfInBounds_toArray, List.set_cons_zero, List.set_cons_succ, i64_w, i32_w]
            rfl
          refine pure_ (i := 11) (N := some 12) (v := ?_) (a' := ?_) #[true, true, true, true, true, true, true, true, true, true, true, true] rfl rfl (by kernel_rfl) (fun _ _ _ h => h) (Or.inl ⟨by rfl, ?_⟩) ?_ ?_
          rotate_left
          · intro w'
            go_simp
            with_reducible rfl
          rotate_left
          · simp only [Act.put, List.setIfInBounds_toArray, List.set_cons_zero, List.set_cons_succ, i64_w, i32_w]
            rfl
          refine done_ (by kernel_rfl) ?_
          go_upto_region 15 with fail
          refine start_ (n := 13) (S := fun w' => w'.cell? ⟨w.heap.size, 0, none⟩ = some (.int .i64 k) ∧ w'.cell? ⟨w.heap.size, 1, none⟩ = some (.int .i64 f) ∧ w'.cell? ⟨w.heap.size, 2, none⟩ = some (.slice A cs.length ca) ∧ w'.cell? ⟨w.heap.size, 3, none⟩ = some (.slice B ds.length cb) ∧ w'.cell? ⟨tp, 0, none⟩ = some (.int .i64 2) ∧ w'.cell? ⟨tp, 1, none⟩ = some (.int .u8 s) ∧ w'.cell? ⟨tp, 2, none⟩ = some (.int .i64 0)) (ds := [11]) #[false, false, false, false, false, false, false, false, false, false, false, false, false] (by kernel_rfl) rfl rfl ⟨c0, c1, c2, c3, p0, p1, p2⟩ (fun hHeld => ?_)
          have hd_ := below_drew (RowKit.Below.refl wq.heap.size wq)
          have n0_ := Aside0.mk (below_then HB.out HB.out.size hd_)
          have n1_ := Aside0.mk (HX.out.below hd_)
          have n2_ := Aside0.mk (HP.out.below hd_)
          have n3_ := Aside0.mk (Kd.C_below HM.out hd_)
          have n4_ := Aside0.mk (below_then HBW.out HBW.out.size hd_)
          have n5_ := Aside0.mk (HS.out.below hd_)
          clear HB HX HP HM HBW HS c0 c1 c2 c3 p0 p1 p2 hd_
          have HB := n0_
          have HX := n1_
          have HP := n2_
          have HM := n3_
          have HBW := n4_
          have HS := n5_
          clear n0_ n1_ n2_ n3_ n4_ n5_
          have c0 := HX.out.at 0 (.int .i64 k) rfl
          have c1 := HX.out.at 1 (.int .i64 f) rfl
          have c2 := HX.out.at 2 (.slice A cs.length ca) rfl
          have c3 := HX.out.at 3 (.slice B ds.length cb) rfl
          have p0 := HP.out.at 0 (.int .i64 2) rfl
          have p1 := HP.out.at 1 (.int .u8 s) rfl
          have p2 := HP.out.at 2 (.int .i64 0) rfl
          generalize wq.drew = wd at *
          have HD := Aside0.mk (RowKit.Below.refl wd.heap.size wd)
          have HSL := Aside0.mk (Array.getElem?_eq_some_iff.1 (show wd.heap[w3.heap.size]? = _ from HS.out)).1
          refine pure_ (i := 3) (N := some 59) (v := ?_) (a' := ?_) #[false, false, false, true, false, false, false, false, false, false, false, false, false] rfl rfl (by kernel_rfl) (fun _ _ _ h => h) (Or.inl ⟨by rfl, ?_⟩) ?_ ?_
          rotate_left
          · intro w'
            go_simp
            with_reducible rfl
          rotate_left
          · simp only [Act.put, List.setIfInBounds_toArray, List.set_cons_zero, List.set_cons_succ, i64_w, i32_w]
            rfl
          refine pure_ (i := 4) (N := some 60) (v := ?_) (a' := ?_) #[false, false, false, true, true, false, false, false, false, false, false, false, false] rfl rfl (by kernel_rfl) (fun _ _ _ h => h) (Or.inl ⟨by rfl, ?_⟩) ?_ ?_
          rotate_left
          · intro w'
            go_simp
            with_reducible rfl
          rotate_left
          · simp only [Act.put, List.setIfInBounds_toArray, List.set_cons_zero, List.set_cons_succ, i64_w, i32_w]
            rfl
          refine pure_ (i := 5) (N := some 61) (v := ?_) (a' := ?_) #[false, false, false, true, true, true, false, false, false, false, false, false, false] rfl rfl (by kernel_rfl) (fun _ _ _ h => h) (Or.inl ⟨by rfl, ?_⟩) ?_ ?_
          rotate_left
          · intro w'
            go_simp
            with_reducible rfl
          rotate_left
          · simp only [Act.put, List.setIfInBounds_toArray, List.set_cons_zero, List.set_cons_succ, i64_w, i32_w]
            rfl
          refine take_ (i := 0) (N := some 56) (v := ?_) (a' := ?_) #[true, false, false, true, true, true, false, false, false, false, false, false, false] rfl rfl (by kernel_rfl) (fun _ _ _ h => h) (Or.inl ⟨by rfl, ?_⟩) hHeld ?_ ?_
          rotate_left
          · rintro w' ⟨s0, s1, s2, s3, s4, s5, s6⟩
            go_simp
            with_reducible rfl
          rotate_left
          · simp only [Act.put, List.setIfInBounds_toArray, List.set_cons_zero, List.set_cons_succ, i64_w, i32_w]
            rfl
          refine take_ (i := 2) (N := some 58) (v := ?_) (a' := ?_) #[true, false, true, true, true, true, false, false, false, false, false, false, false] rfl rfl (by kernel_rfl) (fun _ _ _ h => h) (Or.inl ⟨by rfl, ?_⟩) hHeld ?_ ?_
          rotate_left
          · rintro w' ⟨s0, s1, s2, s3, s4, s5, s6⟩
            go_simp
            with_reducible rfl
          rotate_left
          · simp only [Act.put, List.setIfInBounds_toArray, List.set_cons_zero, List.set_cons_succ, i64_w, i32_w]
            rfl
          refine join_ (σ := Nat) 2 #[true, true, true, true, true, true, true, true, true, true, true, false, false] (fun sg_ => [(57, .agg #[.int .i64 k, .int .i64 f, .slice A cs.length ca, .slice B ds.length cb]), (62, .tuple #[.agg #[.int .i64 q, .int .i64 q, .int .i64 q], .int .i64 0]), (13, .pointer (some ⟨sg_, 0, none⟩)), (55, .tuple #[.agg #[.int .i64 q, .int .i64 q, .int .i64 q], .int .i64 0]), (63, .agg #[.int .i64 q, .int .i64 q, .int .i64 q]), (64, .int .i64 0)]) (fun sg_ w_ => Blk w_ sg_ #[.int .i64 0, .int .i64 0, .int .i64 0] 53 ∧ wd.heap.size ≤ sg_ ∧ RowKit.Below wd.heap.size wd w_) ?_ ?_
          rotate_left
          · intro hCont
            refine two_ (i := 1) (j := 10) (Ni := some 57) (Nj := some 13) #[true, true, true, true, true, true, false, false, false, false, false, false, false] #[true, false, true, true, true, true, false, false, false, false, true, false, false] rfl rfl rfl rfl (by kernel_rfl) (by decide) (by decide) (fun K hK => ?_) (fun K hK => ?_)
            · skip
              refine goes_ Try.func22 (by kernel_rfl) rfl #[.agg #[.int .i64 k, .int .i64 f, .slice A cs.length ca, .slice B ds.length cb]] (by rfl) rfl rfl (by simp only [List.map_toArray, List.map_cons, List.map_nil]; rfl) ?_
              with_reducible refine (machine_own k f A cs.length ca B ds.length cb _).mono ?_
              rintro e_ wa ⟨rfl, hb⟩
              refine ⟨_, rfl, ?_⟩
              have n0_ := Aside0.mk (below_then HB.out HB.out.size hb)
              have n1_ := Aside0.mk (HX.out.below hb)
              have n2_ := Aside0.mk (HP.out.below hb)
              have n3_ := Aside0.mk (Kd.C_below HM.out hb)
              have n4_ := Aside0.mk (below_then HBW.out HBW.out.size hb)
              have n5_ := Aside0.mk (HS.out.below hb)
              have n6_ := Aside0.mk (below_then HD.out HD.out.size hb)
              clear HB HX HP HM HBW HS HD c0 c1 c2 c3 p0 p1 p2 hb
              have HB := n0_
              have HX := n1_
              have HP := n2_
              have HM := n3_
              have HBW := n4_
              have HS := n5_
              have HD := n6_
              clear n0_ n1_ n2_ n3_ n4_ n5_ n6_
              have c0 := HX.out.at 0 (.int .i64 k) rfl
              have c1 := HX.out.at 1 (.int .i64 f) rfl
              have c2 := HX.out.at 2 (.slice A cs.length ca) rfl
              have c3 := HX.out.at 3 (.slice B ds.length cb) rfl
              have p0 := HP.out.at 0 (.int .i64 2) rfl
              have p1 := HP.out.at 1 (.int .u8 s) rfl
              have p2 := HP.out.at 2 (.int .i64 0) rfl
              refine hK.out _ _ ⟨HX.out.at 0 (.int .i64 k) rfl, HX.out.at 1 (.int .i64 f) rfl, HX.out.at 2 (.slice A cs.length ca) rfl, HX.out.at 3 (.slice B ds.length cb) rfl, HP.out.at 0 (.int .i64 2) rfl, HP.out.at 1 (.int .u8 s) rfl, HP.out.at 2 (.int .i64 0) rfl⟩ (fun hHeld => ?_)
              clear hK K
              refine norm_ (a' := ?_) ?_ ?_
              rotate_left
              · show Act.put _ (some 57) _ = _
                simp only [Act.put, List.setIfInBounds_toArray, List.set_cons_zero, List.set_cons_succ, i64_w, i32_w]
                rfl
              refine two_ (i := 6) (j := 10) (Ni := some 62) (Nj := some 13) #[true, true, true, true, true, true, true, false, false, false, false, false, false] #[true, true, true, true, true, true, false, false, false, false, true, false, false] rfl rfl rfl rfl (by kernel_rfl) (by decide) (by decide) (fun K hK => ?_) (fun K hK => ?_)
              · skip
                refine goes_ Try.func21 (by kernel_rfl) rfl #[.agg #[.int .i64 k, .int .i64 f, .slice A cs.length ca, .slice B ds.length cb], .agg #[.int .i64 2, .int .u8 s, .int .i64 0], .int .i64 (wrap64 ((IntKind.u64.wrap x).tmod (cs.length : Int))), .int .i64 i, .slice (some ⟨tp + 1, 0, none⟩) 8 8] (by rfl) rfl rfl (by simp only [List.map_toArray, List.map_cons, List.map_nil]; rfl) ?_
                with_reducible refine (HND.out _ HB.out HM.out).mono ?_
                rintro e_ wc ⟨rfl, hb⟩
                refine ⟨_, rfl, ?_⟩
                have n0_ := Aside0.mk (below_then HB.out HB.out.size hb)
                have n1_ := Aside0.mk (HX.out.below hb)
                have n2_ := Aside0.mk (HP.out.below hb)
                have n3_ := Aside0.mk (Kd.C_below HM.out hb)
                have n4_ := Aside0.mk (below_then HBW.out HBW.out.size hb)
                have n5_ := Aside0.mk (HS.out.below hb)
                have n6_ := Aside0.mk (below_then HD.out HD.out.size hb)
                clear HB HX HP HM HBW HS HD c0 c1 c2 c3 p0 p1 p2 hb
                have HB := n0_
                have HX := n1_
                have HP := n2_
                have HM := n3_
                have HBW := n4_
                have HS := n5_
                have HD := n6_
                clear n0_ n1_ n2_ n3_ n4_ n5_ n6_
                have c0 := HX.out.at 0 (.int .i64 k) rfl
                have c1 := HX.out.at 1 (.int .i64 f) rfl
                have c2 := HX.out.at 2 (.slice A cs.length ca) rfl
                have c3 := HX.out.at 3 (.slice B ds.length cb) rfl
                have p0 := HP.out.at 0 (.int .i64 2) rfl
                have p1 := HP.out.at 1 (.int .u8 s) rfl
                have p2 := HP.out.at 2 (.int .i64 0) rfl
                refine hK.out _ _ ⟨HX.out.at 0 (.int .i64 k) rfl, HX.out.at 1 (.int .i64 f) rfl, HX.out.at 2 (.slice A cs.length ca) rfl, HX.out.at 3 (.slice B ds.length cb) rfl, HP.out.at 0 (.int .i64 2) rfl, HP.out.at 1 (.int .u8 s) rfl, HP.out.at 2 (.int .i64 0) rfl⟩ (fun hHeld => ?_)
                clear hK K
                refine norm_ (a' := ?_) ?_ ?_
                rotate_left
                · show Act.put _ (some 62) _ = _
                  simp only [Act.put, List.setIfInBounds_toArray, List.set_cons_zero, List.set_cons_succ, i64_w, i32_w]
                  rfl
                refine pure_ (i := 7) (N := some 55) (v := ?_) (a' := ?_) #[true, true, true, true, true, true, true, true, false, false, false, false, false] rfl rfl (by kernel_rfl) (fun _ _ _ h => h) (Or.inl ⟨by rfl, ?_⟩) ?_ ?_
                rotate_left
                · intro w'
                  go_simp
                  with_reducible rfl
                rotate_left
                · simp only [Act.put, List.setIfInBounds_toArray, List.set_cons_zero, List.set_cons_succ, i64_w, i32_w]
                  rfl
                refine pure_ (i := 8) (N := some 63) (v := ?_) (a' := ?_) #[true, true, true, true, true, true, true, true, true, false, false, false, false] rfl rfl (by kernel_rfl) (fun _ _ _ h => h) (Or.inl ⟨by rfl, ?_⟩) ?_ ?_
                rotate_left
                · intro w'
                  go_simp
                  with_reducible rfl
                rotate_left
                · simp only [Act.put, List.setIfInBounds_toArray, List.set_cons_zero, List.set_cons_succ, i64_w, i32_w]
                  rfl
                refine pure_ (i := 9) (N := some 64) (v := ?_) (a' := ?_) #[true, true, true, true, true, true, true, true, true, true, false, false, false] rfl rfl (by kernel_rfl) (fun _ _ _ h => h) (Or.inl ⟨by rfl, ?_⟩) ?_ ?_
                rotate_left
                · intro w'
                  go_simp
                  with_reducible rfl
                rotate_left
                · simp only [Act.put, List.setIfInBounds_toArray, List.set_cons_zero, List.set_cons_succ, i64_w, i32_w]
                  rfl
                refine one_ (i := 10) (N := some 13) #[true, true, true, true, true, true, true, true, true, true, true, false, false] rfl rfl (by kernel_rfl) (by decide) (fun K hK => ?_)
                refine value_ (w1 := ?_) (v := ?_) (by rfl) rfl ?_ ?_
                rotate_left 2
                · go_simp
                  constructor
                  · rfl
                  · rfl
                have hb := below_alloc (RowKit.Below.refl wc.heap.size wc) (.cells #[.int .i64 0, .int .i64 0, .int .i64 0] 53)
                have HT := Aside0.mk (Blk.new wc #[.int .i64 0, .int .i64 0, .int .i64 0] 53)
                have HSZ := Aside0.mk HD.out.size
                have n0_ := Aside0.mk (below_then HB.out HB.out.size hb)
                have n1_ := Aside0.mk (HX.out.below hb)
                have n2_ := Aside0.mk (HP.out.below hb)
                have n3_ := Aside0.mk (Kd.C_below HM.out hb)
                have n4_ := Aside0.mk (below_then HBW.out HBW.out.size hb)
                have n5_ := Aside0.mk (HS.out.below hb)
                have n6_ := Aside0.mk (below_then HD.out HD.out.size hb)
                clear HB HX HP HM HBW HS HD c0 c1 c2 c3 p0 p1 p2 hb
                have HB := n0_
                have HX := n1_
                have HP := n2_
                have HM := n3_
                have HBW := n4_
                have HS := n5_
                have HD := n6_
                clear n0_ n1_ n2_ n3_ n4_ n5_ n6_
                have c0 := HX.out.at 0 (.int .i64 k) rfl
                have c1 := HX.out.at 1 (.int .i64 f) rfl
                have c2 := HX.out.at 2 (.slice A cs.length ca) rfl
                have c3 := HX.out.at 3 (.slice B ds.length cb) rfl
                have p0 := HP.out.at 0 (.int .i64 2) rfl
                have p1 := HP.out.at 1 (.int .u8 s) rfl
                have p2 := HP.out.at 2 (.int .i64 0) rfl
                refine hK.out _ _ ⟨HX.out.at 0 (.int .i64 k) rfl, HX.out.at 1 (.int .i64 f) rfl, HX.out.at 2 (.slice A cs.length ca) rfl, HX.out.at 3 (.slice B ds.length cb) rfl, HP.out.at 0 (.int .i64 2) rfl, HP.out.at 1 (.int .u8 s) rfl, HP.out.at 2 (.int .i64 0) rfl⟩ (fun hHeld => ?_)
                clear hK K
                refine norm_ (a' := ?_) ?_ ?_
                rotate_left
                · show Act.put _ (some 13) _ = _
                  simp only [Act.put, List.setIfInBounds_toArray, List.set_cons_zero, List.set_cons_succ, i64_w, i32_w]
                  rfl
                exact norm_ (by simp only [putAll, Act.put, List.setIfInBounds_toArray, List.set_cons_zero, List.set_cons_succ]) (hCont wc.heap.size _ ⟨HT.out, HSZ.out, HD.out⟩)
              · skip
                refine value_ (w1 := ?_) (v := ?_) (by rfl) rfl ?_ ?_
                rotate_left 2
                · go_simp
                  constructor
                  · rfl
                  · rfl
                have hb := below_alloc (RowKit.Below.refl wa.heap.size wa) (.cells #[.int .i64 0, .int .i64 0, .int .i64 0] 53)
                have HT := Aside0.mk (Blk.new wa #[.int .i64 0, .int .i64 0, .int .i64 0] 53)
                have HSZ := Aside0.mk HD.out.size
                have n0_ := Aside0.mk (below_then HB.out HB.out.size hb)
                have n1_ := Aside0.mk (HX.out.below hb)
                have n2_ := Aside0.mk (HP.out.below hb)
                have n3_ := Aside0.mk (Kd.C_below HM.out hb)
                have n4_ := Aside0.mk (below_then HBW.out HBW.out.size hb)
                have n5_ := Aside0.mk (HS.out.below hb)
                have n6_ := Aside0.mk (below_then HD.out HD.out.size hb)
                clear HB HX HP HM HBW HS HD c0 c1 c2 c3 p0 p1 p2 hb
                have HB := n0_
                have HX := n1_
                have HP := n2_
                have HM := n3_
                have HBW := n4_
                have HS := n5_
                have HD := n6_
                clear n0_ n1_ n2_ n3_ n4_ n5_ n6_
                have c0 := HX.out.at 0 (.int .i64 k) rfl
                have c1 := HX.out.at 1 (.int .i64 f) rfl
                have c2 := HX.out.at 2 (.slice A cs.length ca) rfl
                have c3 := HX.out.at 3 (.slice B ds.length cb) rfl
                have p0 := HP.out.at 0 (.int .i64 2) rfl
                have p1 := HP.out.at 1 (.int .u8 s) rfl
                have p2 := HP.out.at 2 (.int .i64 0) rfl
                refine hK.out _ _ ⟨HX.out.at 0 (.int .i64 k) rfl, HX.out.at 1 (.int .i64 f) rfl, HX.out.at 2 (.slice A cs.length ca) rfl, HX.out.at 3 (.slice B ds.length cb) rfl, HP.out.at 0 (.int .i64 2) rfl, HP.out.at 1 (.int .u8 s) rfl, HP.out.at 2 (.int .i64 0) rfl⟩ (fun hHeld => ?_)
                clear hK K
                refine norm_ (a' := ?_) ?_ ?_
                rotate_left
                · show Act.put _ (some 13) _ = _
                  simp only [Act.put, List.setIfInBounds_toArray, List.set_cons_zero, List.set_cons_succ, i64_w, i32_w]
                  rfl
                refine one_ (i := 6) (N := some 62) #[true, true, true, true, true, true, true, false, false, false, true, false, false] rfl rfl (by kernel_rfl) (by decide) (fun K hK => ?_)
                refine goes_ Try.func21 (by kernel_rfl) rfl #[.agg #[.int .i64 k, .int .i64 f, .slice A cs.length ca, .slice B ds.length cb], .agg #[.int .i64 2, .int .u8 s, .int .i64 0], .int .i64 (wrap64 ((IntKind.u64.wrap x).tmod (cs.length : Int))), .int .i64 i, .slice (some ⟨tp + 1, 0, none⟩) 8 8] (by rfl) rfl rfl (by simp only [List.map_toArray, List.map_cons, List.map_nil]; rfl) ?_
                with_reducible refine (HND.out _ HB.out HM.out).mono ?_
                rintro e_ wc ⟨rfl, hb⟩
                refine ⟨_, rfl, ?_⟩
                have n0_ := Aside0.mk (below_then HB.out HB.out.size hb)
                have n1_ := Aside0.mk (HX.out.below hb)
                have n2_ := Aside0.mk (HP.out.below hb)
                have n3_ := Aside0.mk (Kd.C_below HM.out hb)
                have n4_ := Aside0.mk (below_then HBW.out HBW.out.size hb)
                have n5_ := Aside0.mk (HS.out.below hb)
                have n6_ := Aside0.mk (below_then HD.out HD.out.size hb)
                have n7_ := Aside0.mk (HT.out.below hb)
                clear HB HX HP HM HBW HS HD HT c0 c1 c2 c3 p0 p1 p2 hb
                have HB := n0_
                have HX := n1_
                have HP := n2_
                have HM := n3_
                have HBW := n4_
                have HS := n5_
                have HD := n6_
                have HT := n7_
                clear n0_ n1_ n2_ n3_ n4_ n5_ n6_ n7_
                have c0 := HX.out.at 0 (.int .i64 k) rfl
                have c1 := HX.out.at 1 (.int .i64 f) rfl
                have c2 := HX.out.at 2 (.slice A cs.length ca) rfl
                have c3 := HX.out.at 3 (.slice B ds.length cb) rfl
                have p0 := HP.out.at 0 (.int .i64 2) rfl
                have p1 := HP.out.at 1 (.int .u8 s) rfl
                have p2 := HP.out.at 2 (.int .i64 0) rfl
                refine hK.out _ _ ⟨HX.out.at 0 (.int .i64 k) rfl, HX.out.at 1 (.int .i64 f) rfl, HX.out.at 2 (.slice A cs.length ca) rfl, HX.out.at 3 (.slice B ds.length cb) rfl, HP.out.at 0 (.int .i64 2) rfl, HP.out.at 1 (.int .u8 s) rfl, HP.out.at 2 (.int .i64 0) rfl⟩ (fun hHeld => ?_)
                clear hK K
                refine norm_ (a' := ?_) ?_ ?_
                rotate_left
                · show Act.put _ (some 62) _ = _
                  simp only [Act.put, List.setIfInBounds_toArray, List.set_cons_zero, List.set_cons_succ, i64_w, i32_w]
                  rfl
                refine pure_ (i := 7) (N := some 55) (v := ?_) (a' := ?_) #[true, true, true, true, true, true, true, true, false, false, true, false, false] rfl rfl (by kernel_rfl) (fun _ _ _ h => h) (Or.inl ⟨by rfl, ?_⟩) ?_ ?_
                rotate_left
                · intro w'
                  go_simp
                  with_reducible rfl
                rotate_left
                · simp only [Act.put, List.setIfInBounds_toArray, List.set_cons_zero, List.set_cons_succ, i64_w, i32_w]
                  rfl
                refine pure_ (i := 8) (N := some 63) (v := ?_) (a' := ?_) #[true, true, true, true, true, true, true, true, true, false, true, false, false] rfl rfl (by kernel_rfl) (fun _ _ _ h => h) (Or.inl ⟨by rfl, ?_⟩) ?_ ?_
                rotate_left
                · intro w'
                  go_simp
                  with_reducible rfl
                rotate_left
                · simp only [Act.put, List.setIfInBounds_toArray, List.set_cons_zero, List.set_cons_succ, i64_w, i32_w]
                  rfl
                refine pure_ (i := 9) (N := some 64) (v := ?_) (a' := ?_) #[true, true, true, true, true, true, true, true, true, true, true, false, false] rfl rfl (by kernel_rfl) (fun _ _ _ h => h) (Or.inl ⟨by rfl, ?_⟩) ?_ ?_
                rotate_left
                · intro w'
                  go_simp
                  with_reducible rfl
                rotate_left
                · simp only [Act.put, List.setIfInBounds_toArray, List.set_cons_zero, List.set_cons_succ, i64_w, i32_w]
                  rfl
                exact norm_ (by simp only [putAll, Act.put, List.setIfInBounds_toArray, List.set_cons_zero, List.set_cons_succ]) (hCont wa.heap.size _ ⟨HT.out, HSZ.out, HD.out⟩)
            · skip
              refine value_ (w1 := ?_) (v := ?_) (by rfl) rfl ?_ ?_
              rotate_left 2
              · go_simp
                constructor
                · rfl
                · rfl
              have hb := below_alloc (RowKit.Below.refl wd.heap.size wd) (.cells #[.int .i64 0, .int .i64 0, .int .i64 0] 53)
              have HT := Aside0.mk (Blk.new wd #[.int .i64 0, .int .i64 0, .int .i64 0] 53)
              have HSZ := Aside0.mk HD.out.size
              have n0_ := Aside0.mk (below_then HB.out HB.out.size hb)
              have n1_ := Aside0.mk (HX.out.below hb)
              have n2_ := Aside0.mk (HP.out.below hb)
              have n3_ := Aside0.mk (Kd.C_below HM.out hb)
              have n4_ := Aside0.mk (below_then HBW.out HBW.out.size hb)
              have n5_ := Aside0.mk (HS.out.below hb)
              have n6_ := Aside0.mk (below_then HD.out HD.out.size hb)
              clear HB HX HP HM HBW HS HD c0 c1 c2 c3 p0 p1 p2 hb
              have HB := n0_
              have HX := n1_
              have HP := n2_
              have HM := n3_
              have HBW := n4_
              have HS := n5_
              have HD := n6_
              clear n0_ n1_ n2_ n3_ n4_ n5_ n6_
              have c0 := HX.out.at 0 (.int .i64 k) rfl
              have c1 := HX.out.at 1 (.int .i64 f) rfl
              have c2 := HX.out.at 2 (.slice A cs.length ca) rfl
              have c3 := HX.out.at 3 (.slice B ds.length cb) rfl
              have p0 := HP.out.at 0 (.int .i64 2) rfl
              have p1 := HP.out.at 1 (.int .u8 s) rfl
              have p2 := HP.out.at 2 (.int .i64 0) rfl
              refine hK.out _ _ ⟨HX.out.at 0 (.int .i64 k) rfl, HX.out.at 1 (.int .i64 f) rfl, HX.out.at 2 (.slice A cs.length ca) rfl, HX.out.at 3 (.slice B ds.length cb) rfl, HP.out.at 0 (.int .i64 2) rfl, HP.out.at 1 (.int .u8 s) rfl, HP.out.at 2 (.int .i64 0) rfl⟩ (fun hHeld => ?_)
              clear hK K
              refine norm_ (a' := ?_) ?_ ?_
              rotate_left
              · show Act.put _ (some 13) _ = _
                simp only [Act.put, List.setIfInBounds_toArray, List.set_cons_zero, List.set_cons_succ, i64_w, i32_w]
                rfl
              refine one_ (i := 1) (N := some 57) #[true, true, true, true, true, true, false, false, false, false, true, false, false] rfl rfl (by kernel_rfl) (by decide) (fun K hK => ?_)
              refine goes_ Try.func22 (by kernel_rfl) rfl #[.agg #[.int .i64 k, .int .i64 f, .slice A cs.length ca, .slice B ds.length cb]] (by rfl) rfl rfl (by simp only [List.map_toArray, List.map_cons, List.map_nil]; rfl) ?_
              with_reducible refine (machine_own k f A cs.length ca B ds.length cb _).mono ?_
              rintro e_ wa ⟨rfl, hb⟩
              refine ⟨_, rfl, ?_⟩
              have n0_ := Aside0.mk (below_then HB.out HB.out.size hb)
              have n1_ := Aside0.mk (HX.out.below hb)
              have n2_ := Aside0.mk (HP.out.below hb)
              have n3_ := Aside0.mk (Kd.C_below HM.out hb)
              have n4_ := Aside0.mk (below_then HBW.out HBW.out.size hb)
              have n5_ := Aside0.mk (HS.out.below hb)
              have n6_ := Aside0.mk (below_then HD.out HD.out.size hb)
              have n7_ := Aside0.mk (HT.out.below hb)
              clear HB HX HP HM HBW HS HD HT c0 c1 c2 c3 p0 p1 p2 hb
              have HB := n0_
              have HX := n1_
              have HP := n2_
              have HM := n3_
              have HBW := n4_
              have HS := n5_
              have HD := n6_
              have HT := n7_
              clear n0_ n1_ n2_ n3_ n4_ n5_ n6_ n7_
              have c0 := HX.out.at 0 (.int .i64 k) rfl
              have c1 := HX.out.at 1 (.int .i64 f) rfl
              have c2 := HX.out.at 2 (.slice A cs.length ca) rfl
              have c3 := HX.out.at 3 (.slice B ds.length cb) rfl
              have p0 := HP.out.at 0 (.int .i64 2) rfl
              have p1 := HP.out.at 1 (.int .u8 s) rfl
              have p2 := HP.out.at 2 (.int .i64 0) rfl
              refine hK.out _ _ ⟨HX.out.at 0 (.int .i64 k) rfl, HX.out.at 1 (.int .i64 f) rfl, HX.out.at 2 (.slice A cs.length ca) rfl, HX.out.at 3 (.slice B ds.length cb) rfl, HP.out.at 0 (.int .i64 2) rfl, HP.out.at 1 (.int .u8 s) rfl, HP.out.at 2 (.int .i64 0) rfl⟩ (fun hHeld => ?_)
              clear hK K
              refine norm_ (a' := ?_) ?_ ?_
              rotate_left
              · show Act.put _ (some 57) _ = _
                simp only [Act.put, List.setIfInBounds_toArray, List.set_cons_zero, List.set_cons_succ, i64_w, i32_w]
                rfl
              refine one_ (i := 6) (N := some 62) #[true, true, true, true, true, true, true, false, false, false, true, false, false] rfl rfl (by kernel_rfl) (by decide) (fun K hK => ?_)
              refine goes_ Try.func21 (by kernel_rfl) rfl #[.agg #[.int .i64 k, .int .i64 f, .slice A cs.length ca, .slice B ds.length cb], .agg #[.int .i64 2, .int .u8 s, .int .i64 0], .int .i64 (wrap64 ((IntKind.u64.wrap x).tmod (cs.length : Int))), .int .i64 i, .slice (some ⟨tp + 1, 0, none⟩) 8 8] (by rfl) rfl rfl (by simp only [List.map_toArray, List.map_cons, List.map_nil]; rfl) ?_
              with_reducible refine (HND.out _ HB.out HM.out).mono ?_
              rintro e_ wc ⟨rfl, hb⟩
              refine ⟨_, rfl, ?_⟩
              have n0_ := Aside0.mk (below_then HB.out HB.out.size hb)
              have n1_ := Aside0.mk (HX.out.below hb)
              have n2_ := Aside0.mk (HP.out.below hb)
              have n3_ := Aside0.mk (Kd.C_below HM.out hb)
              have n4_ := Aside0.mk (below_then HBW.out HBW.out.size hb)
              have n5_ := Aside0.mk (HS.out.below hb)
              have n6_ := Aside0.mk (below_then HD.out HD.out.size hb)
              have n7_ := Aside0.mk (HT.out.below hb)
              clear HB HX HP HM HBW HS HD HT c0 c1 c2 c3 p0 p1 p2 hb
              have HB := n0_
              have HX := n1_
              have HP := n2_
              have HM := n3_
              have HBW := n4_
              have HS := n5_
              have HD := n6_
              have HT := n7_
              clear n0_ n1_ n2_ n3_ n4_ n5_ n6_ n7_
              have c0 := HX.out.at 0 (.int .i64 k) rfl
              have c1 := HX.out.at 1 (.int .i64 f) rfl
              have c2 := HX.out.at 2 (.slice A cs.length ca) rfl
              have c3 := HX.out.at 3 (.slice B ds.length cb) rfl
              have p0 := HP.out.at 0 (.int .i64 2) rfl
              have p1 := HP.out.at 1 (.int .u8 s) rfl
              have p2 := HP.out.at 2 (.int .i64 0) rfl
              refine hK.out _ _ ⟨HX.out.at 0 (.int .i64 k) rfl, HX.out.at 1 (.int .i64 f) rfl, HX.out.at 2 (.slice A cs.length ca) rfl, HX.out.at 3 (.slice B ds.length cb) rfl, HP.out.at 0 (.int .i64 2) rfl, HP.out.at 1 (.int .u8 s) rfl, HP.out.at 2 (.int .i64 0) rfl⟩ (fun hHeld => ?_)
              clear hK K
              refine norm_ (a' := ?_) ?_ ?_
              rotate_left
              · show Act.put _ (some 62) _ = _
                simp only [Act.put, List.setIfInBounds_toArray, List.set_cons_zero, List.set_cons_succ, i64_w, i32_w]
                rfl
              refine pure_ (i := 7) (N := some 55) (v := ?_) (a' := ?_) #[true, true, true, true, true, true, true, true, false, false, true, false, false] rfl rfl (by kernel_rfl) (fun _ _ _ h => h) (Or.inl ⟨by rfl, ?_⟩) ?_ ?_
              rotate_left
              · intro w'
                go_simp
                with_reducible rfl
              rotate_left
              · simp only [Act.put, List.setIfInBounds_toArray, List.set_cons_zero, List.set_cons_succ, i64_w, i32_w]
                rfl
              refine pure_ (i := 8) (N := some 63) (v := ?_) (a' := ?_) #[true, true, true, true, true, true, true, true, true, false, true, false, false] rfl rfl (by kernel_rfl) (fun _ _ _ h => h) (Or.inl ⟨by rfl, ?_⟩) ?_ ?_
              rotate_left
              · intro w'
                go_simp
                with_reducible rfl
              rotate_left
              · simp only [Act.put, List.setIfInBounds_toArray, List.set_cons_zero, List.set_cons_succ, i64_w, i32_w]
                rfl
              refine pure_ (i := 9) (N := some 64) (v := ?_) (a' := ?_) #[true, true, true, true, true, true, true, true, true, true, true, false, false] rfl rfl (by kernel_rfl) (fun _ _ _ h => h) (Or.inl ⟨by rfl, ?_⟩) ?_ ?_
              rotate_left
              · intro w'
                go_simp
                with_reducible rfl
              rotate_left
              · simp only [Act.put, List.setIfInBounds_toArray, List.set_cons_zero, List.set_cons_succ, i64_w, i32_w]
                rfl
              exact norm_ (by simp only [putAll, Act.put, List.setIfInBounds_toArray, List.set_cons_zero, List.set_cons_succ]) (hCont wd.heap.size _ ⟨HT.out, HSZ.out, HD.out⟩)
          rintro tb wj ⟨hT, hS, hD⟩
          have HT := Aside0.mk hT
          have HSB := Aside0.mk hS
          have HD2 := Aside0.mk hD
          clear hT hS hD
          have t0 := HT.out.at 0 (.int .i64 0) rfl
          have t1 := HT.out.at 1 (.int .i64 0) rfl
          have t2 := HT.out.at 2 (.int .i64 0) rfl
          have g0 := HT.out.fz 0
          have g1 := HT.out.fz 1
          have g2 := HT.out.fz 2
          have hHeld : wj.cell? ⟨w.heap.size, 0, none⟩ = some (.int .i64 k) ∧ wj.cell? ⟨w.heap.size, 1, none⟩ = some (.int .i64 f) ∧ wj.cell? ⟨w.heap.size, 2, none⟩ = some (.slice A cs.length ca) ∧ wj.cell? ⟨w.heap.size, 3, none⟩ = some (.slice B ds.length cb) ∧ wj.cell? ⟨tp, 0, none⟩ = some (.int .i64 2) ∧ wj.cell? ⟨tp, 1, none⟩ = some (.int .u8 s) ∧ wj.cell? ⟨tp, 2, none⟩ = some (.int .i64 0) := ⟨(HX.out.below HD2.out).at 0 (.int .i64 k) rfl, (HX.out.below HD2.out).at 1 (.int .i64 f) rfl, (HX.out.below HD2.out).at 2 (.slice A cs.length ca) rfl, (HX.out.below HD2.out).at 3 (.slice B ds.length cb) rfl, (HP.out.below HD2.out).at 0 (.int .i64 2) rfl, (HP.out.below HD2.out).at 1 (.int .u8 s) rfl, (HP.out.below HD2.out).at 2 (.int .i64 0) rfl⟩
          refine norm_ (a' := ?_) ?_ ?_
          rotate_left
          · simp only [putAll, Act.put, List.setIfInBounds_toArray, List.set_cons_zero, List.set_cons_succ]
            rfl
          refine last_ (i := 11) (N := none) #[true, true, true, true, true, true, true, true, true, true, true, true, false] rfl rfl (by kernel_rfl) (by decide) (fun K hK => ?_)
          refine skip_ (w1 := ?_) (by rfl) rfl ?_ ?_
          rotate_left
          · go_simp
            rfl
          refine hK.out _ _ ?_
          clear hK K
          refine pure_ (i := 12) (N := some 14) (v := ?_) (a' := ?_) #[true, true, true, true, true, true, true, true, true, true, true, true, true] rfl rfl (by kernel_rfl) (fun _ _ _ h => h) (Or.inl ⟨by rfl, ?_⟩) ?_ ?_
          rotate_left
          · intro w'
            go_simp
            with_reducible rfl
          rotate_left
          · simp only [Act.put, List.setIfInBounds_toArray, List.set_cons_zero, List.set_cons_succ, i64_w, i32_w]
            rfl
          refine done_ (by kernel_rfl) ?_
          have hb_ := below_put3 HD2.out HSB.out (.int .i64 q) (.int .i64 q) (.int .i64 q)
          have HT3 := Aside0.mk (HT.out.put3 (.int .i64 q) (.int .i64 q) (.int .i64 q))
          clear HT t0 t1 t2 g0 g1 g2 hHeld
          have n0_ := Aside0.mk (below_then HB.out HB.out.size hb_)
          have n1_ := Aside0.mk (HX.out.below hb_)
          have n2_ := Aside0.mk (HP.out.below hb_)
          have n3_ := Aside0.mk (Kd.C_below HM.out hb_)
          have n4_ := Aside0.mk (below_then HBW.out HBW.out.size hb_)
          have n5_ := Aside0.mk (HS.out.below hb_)
          clear HB HX HP HM HBW HS c0 c1 c2 c3 p0 p1 p2 hb_
          have HB := n0_
          have HX := n1_
          have HP := n2_
          have HM := n3_
          have HBW := n4_
          have HS := n5_
          clear n0_ n1_ n2_ n3_ n4_ n5_
          have c0 := HX.out.at 0 (.int .i64 k) rfl
          have c1 := HX.out.at 1 (.int .i64 f) rfl
          have c2 := HX.out.at 2 (.slice A cs.length ca) rfl
          have c3 := HX.out.at 3 (.slice B ds.length cb) rfl
          have p0 := HP.out.at 0 (.int .i64 2) rfl
          have p1 := HP.out.at 1 (.int .u8 s) rfl
          have p2 := HP.out.at 2 (.int .i64 0) rfl
          have HNE := Aside0.mk (show tb ≠ w3.heap.size by have := HSL.out; have := HSB.out; omega)
          clear HSL
          clear HD2 HSB HD
          have HT := HT3
          clear HT3
          generalize ((wj.setCell ⟨tb, 0, none⟩ (.int .i64 q)).setCell ⟨tb, 1, none⟩ (.int .i64 q)).setCell ⟨tb, 2, none⟩ (.int .i64 q) = wz at *
          have t0 := HT.out.at 0 (.int .i64 q) rfl
          have t1 := HT.out.at 1 (.int .i64 q) rfl
          have s0 := HS.out.at q (.bool false) (by
            unfold seenC
            rw [List.getElem?_toArray, List.getElem?_map, List.getElem?_range (by omega)]
            simp [HNW.out])
          have sf := HS.out.fz q
          go_upto_region 19 with fail
          have n0_ := Aside0.mk (HT.out.other ⟨w3.heap.size, q, none⟩ HNE.out (.bool true))
          have n1_ := Aside0.mk (show Blk (wz.setCell ⟨w3.heap.size, q, none⟩ (.bool true)) w3.heap.size (seenC (turnL k) (i + 1)) 46 from by rw [← seen_set (turnL k) i q HTG.out (by omega)]; exact HS.out.set q (.bool true))
          have n2_ := Aside0.mk (RowKit.Below.setCell (p := ⟨w3.heap.size, q, none⟩) HBW.out (Nat.le_refl _) (.bool true))
          clear HT HS HBW HX HP HM HB c0 c1 c2 c3 p0 p1 p2 t0 t1 s0 sf
          generalize wz.setCell ⟨w3.heap.size, q, none⟩ (.bool true) = wy at *
          have t2 := n0_.out.at 2 (.int .i64 q) rfl
          go_wp2_with fail
          go_roundw
          case rel => exact ⟨i + 1, by go_num, by rw [HQ.out], by omega, n2_.out, n1_.out⟩
          case measure => simp [intOf]; omega
        · have hib2 : decide (i < le) = false := decide_eq_false hie
          have HND := Aside0.mk (show ∀ (W : World), RowKit.Below w.heap.size w W → Kd.C Kd.bool W (some ⟨tp + 1, 0, none⟩) 8 truesL → Calls Try.prog 21 #[.agg #[.int .i64 k, .int .i64 f, .slice A cs.length ca, .slice B ds.length cb], .agg #[.int .i64 2, .int .u8 s, .int .i64 0], .int .i64 0, .int .i64 i, .slice (some ⟨tp + 1, 0, none⟩) 8 8] W (fun e w' => e = .returned (.tuple #[.agg #[.int .i64 q, .int .i64 q, .int .i64 q], .int .i64 0]) ∧ RowKit.Below W.heap.size W w') from fun W hW hM => HNI.out 0 (by omega) W hW hM)
          go_upto_region 15 with fail
          refine start_ (n := 13) (S := fun w' => w'.cell? ⟨w.heap.size, 0, none⟩ = some (.int .i64 k) ∧ w'.cell? ⟨w.heap.size, 1, none⟩ = some (.int .i64 f) ∧ w'.cell? ⟨w.heap.size, 2, none⟩ = some (.slice A cs.length ca) ∧ w'.cell? ⟨w.heap.size, 3, none⟩ = some (.slice B ds.length cb) ∧ w'.cell? ⟨tp, 0, none⟩ = some (.int .i64 2) ∧ w'.cell? ⟨tp, 1, none⟩ = some (.int .u8 s) ∧ w'.cell? ⟨tp, 2, none⟩ = some (.int .i64 0)) (ds := [11]) #[false, false, false, false, false, false, false, false, false, false, false, false, false] (by kernel_rfl) rfl rfl ⟨c0, c1, c2, c3, p0, p1, p2⟩ (fun hHeld => ?_)
          have hd_ := below_drew (RowKit.Below.refl wr.heap.size wr)
          have n0_ := Aside0.mk (below_then HB.out HB.out.size hd_)
          have n1_ := Aside0.mk (HX.out.below hd_)
          have n2_ := Aside0.mk (HP.out.below hd_)
          have n3_ := Aside0.mk (Kd.C_below HM.out hd_)
          have n4_ := Aside0.mk (below_then HBW.out HBW.out.size hd_)
          have n5_ := Aside0.mk (HS.out.below hd_)
          clear HB HX HP HM HBW HS c0 c1 c2 c3 p0 p1 p2 hd_
          have HB := n0_
          have HX := n1_
          have HP := n2_
          have HM := n3_
          have HBW := n4_
          have HS := n5_
          clear n0_ n1_ n2_ n3_ n4_ n5_
          have c0 := HX.out.at 0 (.int .i64 k) rfl
          have c1 := HX.out.at 1 (.int .i64 f) rfl
          have c2 := HX.out.at 2 (.slice A cs.length ca) rfl
          have c3 := HX.out.at 3 (.slice B ds.length cb) rfl
          have p0 := HP.out.at 0 (.int .i64 2) rfl
          have p1 := HP.out.at 1 (.int .u8 s) rfl
          have p2 := HP.out.at 2 (.int .i64 0) rfl
          generalize wr.drew = wd at *
          have HD := Aside0.mk (RowKit.Below.refl wd.heap.size wd)
          have HSL := Aside0.mk (Array.getElem?_eq_some_iff.1 (show wd.heap[w3.heap.size]? = _ from HS.out)).1
          refine pure_ (i := 3) (N := some 59) (v := ?_) (a' := ?_) #[false, false, false, true, false, false, false, false, false, false, false, false, false] rfl rfl (by kernel_rfl) (fun _ _ _ h => h) (Or.inl ⟨by rfl, ?_⟩) ?_ ?_
          rotate_left
          · intro w'
            go_simp
            with_reducible rfl
          rotate_left
          · simp only [Act.put, List.setIfInBounds_toArray, List.set_cons_zero, List.set_cons_succ, i64_w, i32_w]
            rfl
          refine pure_ (i := 4) (N := some 60) (v := ?_) (a' := ?_) #[false, false, false, true, true, false, false, false, false, false, false, false, false] rfl rfl (by kernel_rfl) (fun _ _ _ h => h) (Or.inl ⟨by rfl, ?_⟩) ?_ ?_
          rotate_left
          · intro w'
            go_simp
            with_reducible rfl
          rotate_left
          · simp only [Act.put, List.setIfInBounds_toArray, List.set_cons_zero, List.set_cons_succ, i64_w, i32_w]
            rfl
          refine pure_ (i := 5) (N := some 61) (v := ?_) (a' := ?_) #[false, false, false, true, true, true, false, false, false, false, false, false, false] rfl rfl (by kernel_rfl) (fun _ _ _ h => h) (Or.inl ⟨by rfl, ?_⟩) ?_ ?_
          rotate_left
          · intro w'
            go_simp
            with_reducible rfl
          rotate_left
          · simp only [Act.put, List.setIfInBounds_toArray, List.set_cons_zero, List.set_cons_succ, i64_w, i32_w]
            rfl
          refine take_ (i := 0) (N := some 56) (v := ?_) (a' := ?_) #[true, false, false, true, true, true, false, false, false, false, false, false, false] rfl rfl (by kernel_rfl) (fun _ _ _ h => h) (Or.inl ⟨by rfl, ?_⟩) hHeld ?_ ?_
          rotate_left
          · rintro w' ⟨s0, s1, s2, s3, s4, s5, s6⟩
            go_simp
            with_reducible rfl
          rotate_left
          · simp only [Act.put, List.setIfInBounds_toArray, List.set_cons_zero, List.set_cons_succ, i64_w, i32_w]
            rfl
          refine take_ (i := 2) (N := some 58) (v := ?_) (a' := ?_) #[true, false, true, true, true, true, false, false, false, false, false, false, false] rfl rfl (by kernel_rfl) (fun _ _ _ h => h) (Or.inl ⟨by rfl, ?_⟩) hHeld ?_ ?_
          rotate_left
          · rintro w' ⟨s0, s1, s2, s3, s4, s5, s6⟩
            go_simp
            with_reducible rfl
          rotate_left
          · simp only [Act.put, List.setIfInBounds_toArray, List.set_cons_zero, List.set_cons_succ, i64_w, i32_w]
            rfl
          refine join_ (σ := Nat) 2 #[true, true, true, true, true, true, true, true, true, true, true, false, false] (fun sg_ => [(57, .agg #[.int .i64 k, .int .i64 f, .slice A cs.length ca, .slice B ds.length cb]), (62, .tuple #[.agg #[.int .i64 q, .int .i64 q, .int .i64 q], .int .i64 0]), (13, .pointer (some ⟨sg_, 0, none⟩)), (55, .tuple #[.agg #[.int .i64 q, .int .i64 q, .int .i64 q], .int .i64 0]), (63, .agg #[.int .i64 q, .int .i64 q, .int .i64 q]), (64, .int .i64 0)]) (fun sg_ w_ => Blk w_ sg_ #[.int .i64 0, .int .i64 0, .int .i64 0] 53 ∧ wd.heap.size ≤ sg_ ∧ RowKit.Below wd.heap.size wd w_) ?_ ?_
          rotate_left
          · intro hCont
            refine two_ (i := 1) (j := 10) (Ni := some 57) (Nj := some 13) #[true, true, true, true, true, true, false, false, false, false, false, false, false] #[true, false, true, true, true, true, false, false, false, false, true, false, false] rfl rfl rfl rfl (by kernel_rfl) (by decide) (by decide) (fun K hK => ?_) (fun K hK => ?_)
            · skip
              refine goes_ Try.func22 (by kernel_rfl) rfl #[.agg #[.int .i64 k, .int .i64 f, .slice A cs.length ca, .slice B ds.length cb]] (by rfl) rfl rfl (by simp only [List.map_toArray, List.map_cons, List.map_nil]; rfl) ?_
              with_reducible refine (machine_own k f A cs.length ca B ds.length cb _).mono ?_
              rintro e_ wa ⟨rfl, hb⟩
              refine ⟨_, rfl, ?_⟩
              have n0_ := Aside0.mk (below_then HB.out HB.out.size hb)
              have n1_ := Aside0.mk (HX.out.below hb)
              have n2_ := Aside0.mk (HP.out.below hb)
              have n3_ := Aside0.mk (Kd.C_below HM.out hb)
              have n4_ := Aside0.mk (below_then HBW.out HBW.out.size hb)
              have n5_ := Aside0.mk (HS.out.below hb)
              have n6_ := Aside0.mk (below_then HD.out HD.out.size hb)
              clear HB HX HP HM HBW HS HD c0 c1 c2 c3 p0 p1 p2 hb
              have HB := n0_
              have HX := n1_
              have HP := n2_
              have HM := n3_
              have HBW := n4_
              have HS := n5_
              have HD := n6_
              clear n0_ n1_ n2_ n3_ n4_ n5_ n6_
              have c0 := HX.out.at 0 (.int .i64 k) rfl
              have c1 := HX.out.at 1 (.int .i64 f) rfl
              have c2 := HX.out.at 2 (.slice A cs.length ca) rfl
              have c3 := HX.out.at 3 (.slice B ds.length cb) rfl
              have p0 := HP.out.at 0 (.int .i64 2) rfl
              have p1 := HP.out.at 1 (.int .u8 s) rfl
              have p2 := HP.out.at 2 (.int .i64 0) rfl
              refine hK.out _ _ ⟨HX.out.at 0 (.int .i64 k) rfl, HX.out.at 1 (.int .i64 f) rfl, HX.out.at 2 (.slice A cs.length ca) rfl, HX.out.at 3 (.slice B ds.length cb) rfl, HP.out.at 0 (.int .i64 2) rfl, HP.out.at 1 (.int .u8 s) rfl, HP.out.at 2 (.int .i64 0) rfl⟩ (fun hHeld => ?_)
              clear hK K
              refine norm_ (a' := ?_) ?_ ?_
              rotate_left
              · show Act.put _ (some 57) _ = _
                simp only [Act.put, List.setIfInBounds_toArray, List.set_cons_zero, List.set_cons_succ, i64_w, i32_w]
                rfl
              refine two_ (i := 6) (j := 10) (Ni := some 62) (Nj := some 13) #[true, true, true, true, true, true, true, false, false, false, false, false, false] #[true, true, true, true, true, true, false, false, false, false, true, false, false] rfl rfl rfl rfl (by kernel_rfl) (by decide) (by decide) (fun K hK => ?_) (fun K hK => ?_)
              · skip
                refine goes_ Try.func21 (by kernel_rfl) rfl #[.agg #[.int .i64 k, .int .i64 f, .slice A cs.length ca, .slice B ds.length cb], .agg #[.int .i64 2, .int .u8 s, .int .i64 0], .int .i64 0, .int .i64 i, .slice (some ⟨tp + 1, 0, none⟩) 8 8] (by rfl) rfl rfl (by simp only [List.map_toArray, List.map_cons, List.map_nil]; rfl) ?_
                with_reducible refine (HND.out _ HB.out HM.out).mono ?_
                rintro e_ wc ⟨rfl, hb⟩
                refine ⟨_, rfl, ?_⟩
                have n0_ := Aside0.mk (below_then HB.out HB.out.size hb)
                have n1_ := Aside0.mk (HX.out.below hb)
                have n2_ := Aside0.mk (HP.out.below hb)
                have n3_ := Aside0.mk (Kd.C_below HM.out hb)
                have n4_ := Aside0.mk (below_then HBW.out HBW.out.size hb)
                have n5_ := Aside0.mk (HS.out.below hb)
                have n6_ := Aside0.mk (below_then HD.out HD.out.size hb)
                clear HB HX HP HM HBW HS HD c0 c1 c2 c3 p0 p1 p2 hb
                have HB := n0_
                have HX := n1_
                have HP := n2_
                have HM := n3_
                have HBW := n4_
                have HS := n5_
                have HD := n6_
                clear n0_ n1_ n2_ n3_ n4_ n5_ n6_
                have c0 := HX.out.at 0 (.int .i64 k) rfl
                have c1 := HX.out.at 1 (.int .i64 f) rfl
                have c2 := HX.out.at 2 (.slice A cs.length ca) rfl
                have c3 := HX.out.at 3 (.slice B ds.length cb) rfl
                have p0 := HP.out.at 0 (.int .i64 2) rfl
                have p1 := HP.out.at 1 (.int .u8 s) rfl
                have p2 := HP.out.at 2 (.int .i64 0) rfl
                refine hK.out _ _ ⟨HX.out.at 0 (.int .i64 k) rfl, HX.out.at 1 (.int .i64 f) rfl, HX.out.at 2 (.slice A cs.length ca) rfl, HX.out.at 3 (.slice B ds.length cb) rfl, HP.out.at 0 (.int .i64 2) rfl, HP.out.at 1 (.int .u8 s) rfl, HP.out.at 2 (.int .i64 0) rfl⟩ (fun hHeld => ?_)
                clear hK K
                refine norm_ (a' := ?_) ?_ ?_
                rotate_left
                · show Act.put _ (some 62) _ = _
                  simp only [Act.put, List.setIfInBounds_toArray, List.set_cons_zero, List.set_cons_succ, i64_w, i32_w]
                  rfl
                refine pure_ (i := 7) (N := some 55) (v := ?_) (a' := ?_) #[true, true, true, true, true, true, true, true, false, false, false, false, false] rfl rfl (by kernel_rfl) (fun _ _ _ h => h) (Or.inl ⟨by rfl, ?_⟩) ?_ ?_
                rotate_left
                · intro w'
                  go_simp
                  with_reducible rfl
                rotate_left
                · simp only [Act.put, List.setIfInBounds_toArray, List.set_cons_zero, List.set_cons_succ, i64_w, i32_w]
                  rfl
                refine pure_ (i := 8) (N := some 63) (v := ?_) (a' := ?_) #[true, true, true, true, true, true, true, true, true, false, false, false, false] rfl rfl (by kernel_rfl) (fun _ _ _ h => h) (Or.inl ⟨by rfl, ?_⟩) ?_ ?_
                rotate_left
                · intro w'
                  go_simp
                  with_reducible rfl
                rotate_left
                · simp only [Act.put, List.setIfInBounds_toArray, List.set_cons_zero, List.set_cons_succ, i64_w, i32_w]
                  rfl
                refine pure_ (i := 9) (N := some 64) (v := ?_) (a' := ?_) #[true, true, true, true, true, true, true, true, true, true, false, false, false] rfl rfl (by kernel_rfl) (fun _ _ _ h => h) (Or.inl ⟨by rfl, ?_⟩) ?_ ?_
                rotate_left
                · intro w'
                  go_simp
                  with_reducible rfl
                rotate_left
                · simp only [Act.put, List.setIfInBounds_toArray, List.set_cons_zero, List.set_cons_succ, i64_w, i32_w]
                  rfl
                refine one_ (i := 10) (N := some 13) #[true, true, true, true, true, true, true, true, true, true, true, false, false] rfl rfl (by kernel_rfl) (by decide) (fun K hK => ?_)
                refine value_ (w1 := ?_) (v := ?_) (by rfl) rfl ?_ ?_
                rotate_left 2
                · go_simp
                  constructor
                  · rfl
                  · rfl
                have hb := below_alloc (RowKit.Below.refl wc.heap.size wc) (.cells #[.int .i64 0, .int .i64 0, .int .i64 0] 53)
                have HT := Aside0.mk (Blk.new wc #[.int .i64 0, .int .i64 0, .int .i64 0] 53)
                have HSZ := Aside0.mk HD.out.size
                have n0_ := Aside0.mk (below_then HB.out HB.out.size hb)
                have n1_ := Aside0.mk (HX.out.below hb)
                have n2_ := Aside0.mk (HP.out.below hb)
                have n3_ := Aside0.mk (Kd.C_below HM.out hb)
                have n4_ := Aside0.mk (below_then HBW.out HBW.out.size hb)
                have n5_ := Aside0.mk (HS.out.below hb)
                have n6_ := Aside0.mk (below_then HD.out HD.out.size hb)
                clear HB HX HP HM HBW HS HD c0 c1 c2 c3 p0 p1 p2 hb
                have HB := n0_
                have HX := n1_
                have HP := n2_
                have HM := n3_
                have HBW := n4_
                have HS := n5_
                have HD := n6_
                clear n0_ n1_ n2_ n3_ n4_ n5_ n6_
                have c0 := HX.out.at 0 (.int .i64 k) rfl
                have c1 := HX.out.at 1 (.int .i64 f) rfl
                have c2 := HX.out.at 2 (.slice A cs.length ca) rfl
                have c3 := HX.out.at 3 (.slice B ds.length cb) rfl
                have p0 := HP.out.at 0 (.int .i64 2) rfl
                have p1 := HP.out.at 1 (.int .u8 s) rfl
                have p2 := HP.out.at 2 (.int .i64 0) rfl
                refine hK.out _ _ ⟨HX.out.at 0 (.int .i64 k) rfl, HX.out.at 1 (.int .i64 f) rfl, HX.out.at 2 (.slice A cs.length ca) rfl, HX.out.at 3 (.slice B ds.length cb) rfl, HP.out.at 0 (.int .i64 2) rfl, HP.out.at 1 (.int .u8 s) rfl, HP.out.at 2 (.int .i64 0) rfl⟩ (fun hHeld => ?_)
                clear hK K
                refine norm_ (a' := ?_) ?_ ?_
                rotate_left
                · show Act.put _ (some 13) _ = _
                  simp only [Act.put, List.setIfInBounds_toArray, List.set_cons_zero, List.set_cons_succ, i64_w, i32_w]
                  rfl
                exact norm_ (by simp only [putAll, Act.put, List.setIfInBounds_toArray, List.set_cons_zero, List.set_cons_succ]) (hCont wc.heap.size _ ⟨HT.out, HSZ.out, HD.out⟩)
              · skip
                refine value_ (w1 := ?_) (v := ?_) (by rfl) rfl ?_ ?_
                rotate_left 2
                · go_simp
                  constructor
                  · rfl
                  · rfl
                have hb := below_alloc (RowKit.Below.refl wa.heap.size wa) (.cells #[.int .i64 0, .int .i64 0, .int .i64 0] 53)
                have HT := Aside0.mk (Blk.new wa #[.int .i64 0, .int .i64 0, .int .i64 0] 53)
                have HSZ := Aside0.mk HD.out.size
                have n0_ := Aside0.mk (below_then HB.out HB.out.size hb)
                have n1_ := Aside0.mk (HX.out.below hb)
                have n2_ := Aside0.mk (HP.out.below hb)
                have n3_ := Aside0.mk (Kd.C_below HM.out hb)
                have n4_ := Aside0.mk (below_then HBW.out HBW.out.size hb)
                have n5_ := Aside0.mk (HS.out.below hb)
                have n6_ := Aside0.mk (below_then HD.out HD.out.size hb)
                clear HB HX HP HM HBW HS HD c0 c1 c2 c3 p0 p1 p2 hb
                have HB := n0_
                have HX := n1_
                have HP := n2_
                have HM := n3_
                have HBW := n4_
                have HS := n5_
                have HD := n6_
                clear n0_ n1_ n2_ n3_ n4_ n5_ n6_
                have c0 := HX.out.at 0 (.int .i64 k) rfl
                have c1 := HX.out.at 1 (.int .i64 f) rfl
                have c2 := HX.out.at 2 (.slice A cs.length ca) rfl
                have c3 := HX.out.at 3 (.slice B ds.length cb) rfl
                have p0 := HP.out.at 0 (.int .i64 2) rfl
                have p1 := HP.out.at 1 (.int .u8 s) rfl
                have p2 := HP.out.at 2 (.int .i64 0) rfl
                refine hK.out _ _ ⟨HX.out.at 0 (.int .i64 k) rfl, HX.out.at 1 (.int .i64 f) rfl, HX.out.at 2 (.slice A cs.length ca) rfl, HX.out.at 3 (.slice B ds.length cb) rfl, HP.out.at 0 (.int .i64 2) rfl, HP.out.at 1 (.int .u8 s) rfl, HP.out.at 2 (.int .i64 0) rfl⟩ (fun hHeld => ?_)
                clear hK K
                refine norm_ (a' := ?_) ?_ ?_
                rotate_left
                · show Act.put _ (some 13) _ = _
                  simp only [Act.put, List.setIfInBounds_toArray, List.set_cons_zero, List.set_cons_succ, i64_w, i32_w]
                  rfl
                refine one_ (i := 6) (N := some 62) #[true, true, true, true, true, true, true, false, false, false, true, false, false] rfl rfl (by kernel_rfl) (by decide) (fun K hK => ?_)
                refine goes_ Try.func21 (by kernel_rfl) rfl #[.agg #[.int .i64 k, .int .i64 f, .slice A cs.length ca, .slice B ds.length cb], .agg #[.int .i64 2, .int .u8 s, .int .i64 0], .int .i64 0, .int .i64 i, .slice (some ⟨tp + 1, 0, none⟩) 8 8] (by rfl) rfl rfl (by simp only [List.map_toArray, List.map_cons, List.map_nil]; rfl) ?_
                with_reducible refine (HND.out _ HB.out HM.out).mono ?_
                rintro e_ wc ⟨rfl, hb⟩
                refine ⟨_, rfl, ?_⟩
                have n0_ := Aside0.mk (below_then HB.out HB.out.size hb)
                have n1_ := Aside0.mk (HX.out.below hb)
                have n2_ := Aside0.mk (HP.out.below hb)
                have n3_ := Aside0.mk (Kd.C_below HM.out hb)
                have n4_ := Aside0.mk (below_then HBW.out HBW.out.size hb)
                have n5_ := Aside0.mk (HS.out.below hb)
                have n6_ := Aside0.mk (below_then HD.out HD.out.size hb)
                have n7_ := Aside0.mk (HT.out.below hb)
                clear HB HX HP HM HBW HS HD HT c0 c1 c2 c3 p0 p1 p2 hb
                have HB := n0_
                have HX := n1_
                have HP := n2_
                have HM := n3_
                have HBW := n4_
                have HS := n5_
                have HD := n6_
                have HT := n7_
                clear n0_ n1_ n2_ n3_ n4_ n5_ n6_ n7_
                have c0 := HX.out.at 0 (.int .i64 k) rfl
                have c1 := HX.out.at 1 (.int .i64 f) rfl
                have c2 := HX.out.at 2 (.slice A cs.length ca) rfl
                have c3 := HX.out.at 3 (.slice B ds.length cb) rfl
                have p0 := HP.out.at 0 (.int .i64 2) rfl
                have p1 := HP.out.at 1 (.int .u8 s) rfl
                have p2 := HP.out.at 2 (.int .i64 0) rfl
                refine hK.out _ _ ⟨HX.out.at 0 (.int .i64 k) rfl, HX.out.at 1 (.int .i64 f) rfl, HX.out.at 2 (.slice A cs.length ca) rfl, HX.out.at 3 (.slice B ds.length cb) rfl, HP.out.at 0 (.int .i64 2) rfl, HP.out.at 1 (.int .u8 s) rfl, HP.out.at 2 (.int .i64 0) rfl⟩ (fun hHeld => ?_)
                clear hK K
                refine norm_ (a' := ?_) ?_ ?_
                rotate_left
                · show Act.put _ (some 62) _ = _
                  simp only [Act.put, List.setIfInBounds_toArray, List.set_cons_zero, List.set_cons_succ, i64_w, i32_w]
                  rfl
                refine pure_ (i := 7) (N := some 55) (v := ?_) (a' := ?_) #[true, true, true, true, true, true, true, true, false, false, true, false, false] rfl rfl (by kernel_rfl) (fun _ _ _ h => h) (Or.inl ⟨by rfl, ?_⟩) ?_ ?_
                rotate_left
                · intro w'
                  go_simp
                  with_reducible rfl
                rotate_left
                · simp only [Act.put, List.setIfInBounds_toArray, List.set_cons_zero, List.set_cons_succ, i64_w, i32_w]
                  rfl
                refine pure_ (i := 8) (N := some 63) (v := ?_) (a' := ?_) #[true, true, true, true, true, true, true, true, true, false, true, false, false] rfl rfl (by kernel_rfl) (fun _ _ _ h => h) (Or.inl ⟨by rfl, ?_⟩) ?_ ?_
                rotate_left
                · intro w'
                  go_simp
                  with_reducible rfl
                rotate_left
                · simp only [Act.put, List.setIfInBounds_toArray, List.set_cons_zero, List.set_cons_succ, i64_w, i32_w]
                  rfl
                refine pure_ (i := 9) (N := some 64) (v := ?_) (a' := ?_) #[true, true, true, true, true, true, true, true, true, true, true, false, false] rfl rfl (by kernel_rfl) (fun _ _ _ h => h) (Or.inl ⟨by rfl, ?_⟩) ?_ ?_
                rotate_left
                · intro w'
                  go_simp
                  with_reducible rfl
                rotate_left
                · simp only [Act.put, List.setIfInBounds_toArray, List.set_cons_zero, List.set_cons_succ, i64_w, i32_w]
                  rfl
                exact norm_ (by simp only [putAll, Act.put, List.setIfInBounds_toArray, List.set_cons_zero, List.set_cons_succ]) (hCont wa.heap.size _ ⟨HT.out, HSZ.out, HD.out⟩)
            · skip
              refine value_ (w1 := ?_) (v := ?_) (by rfl) rfl ?_ ?_
              rotate_left 2
              · go_simp
                constructor
                · rfl
                · rfl
              have hb := below_alloc (RowKit.Below.refl wd.heap.size wd) (.cells #[.int .i64 0, .int .i64 0, .int .i64 0] 53)
              have HT := Aside0.mk (Blk.new wd #[.int .i64 0, .int .i64 0, .int .i64 0] 53)
              have HSZ := Aside0.mk HD.out.size
              have n0_ := Aside0.mk (below_then HB.out HB.out.size hb)
              have n1_ := Aside0.mk (HX.out.below hb)
              have n2_ := Aside0.mk (HP.out.below hb)
              have n3_ := Aside0.mk (Kd.C_below HM.out hb)
              have n4_ := Aside0.mk (below_then HBW.out HBW.out.size hb)
              have n5_ := Aside0.mk (HS.out.below hb)
              have n6_ := Aside0.mk (below_then HD.out HD.out.size hb)
              clear HB HX HP HM HBW HS HD c0 c1 c2 c3 p0 p1 p2 hb
              have HB := n0_
              have HX := n1_
              have HP := n2_
              have HM := n3_
              have HBW := n4_
              have HS := n5_
              have HD := n6_
              clear n0_ n1_ n2_ n3_ n4_ n5_ n6_
              have c0 := HX.out.at 0 (.int .i64 k) rfl
              have c1 := HX.out.at 1 (.int .i64 f) rfl
              have c2 := HX.out.at 2 (.slice A cs.length ca) rfl
              have c3 := HX.out.at 3 (.slice B ds.length cb) rfl
              have p0 := HP.out.at 0 (.int .i64 2) rfl
              have p1 := HP.out.at 1 (.int .u8 s) rfl
              have p2 := HP.out.at 2 (.int .i64 0) rfl
              refine hK.out _ _ ⟨HX.out.at 0 (.int .i64 k) rfl, HX.out.at 1 (.int .i64 f) rfl, HX.out.at 2 (.slice A cs.length ca) rfl, HX.out.at 3 (.slice B ds.length cb) rfl, HP.out.at 0 (.int .i64 2) rfl, HP.out.at 1 (.int .u8 s) rfl, HP.out.at 2 (.int .i64 0) rfl⟩ (fun hHeld => ?_)
              clear hK K
              refine norm_ (a' := ?_) ?_ ?_
              rotate_left
              · show Act.put _ (some 13) _ = _
                simp only [Act.put, List.setIfInBounds_toArray, List.set_cons_zero, List.set_cons_succ, i64_w, i32_w]
                rfl
              refine one_ (i := 1) (N := some 57) #[true, true, true, true, true, true, false, false, false, false, true, false, false] rfl rfl (by kernel_rfl) (by decide) (fun K hK => ?_)
              refine goes_ Try.func22 (by kernel_rfl) rfl #[.agg #[.int .i64 k, .int .i64 f, .slice A cs.length ca, .slice B ds.length cb]] (by rfl) rfl rfl (by simp only [List.map_toArray, List.map_cons, List.map_nil]; rfl) ?_
              with_reducible refine (machine_own k f A cs.length ca B ds.length cb _).mono ?_
              rintro e_ wa ⟨rfl, hb⟩
              refine ⟨_, rfl, ?_⟩
              have n0_ := Aside0.mk (below_then HB.out HB.out.size hb)
              have n1_ := Aside0.mk (HX.out.below hb)
              have n2_ := Aside0.mk (HP.out.below hb)
              have n3_ := Aside0.mk (Kd.C_below HM.out hb)
              have n4_ := Aside0.mk (below_then HBW.out HBW.out.size hb)
              have n5_ := Aside0.mk (HS.out.below hb)
              have n6_ := Aside0.mk (below_then HD.out HD.out.size hb)
              have n7_ := Aside0.mk (HT.out.below hb)
              clear HB HX HP HM HBW HS HD HT c0 c1 c2 c3 p0 p1 p2 hb
              have HB := n0_
              have HX := n1_
              have HP := n2_
              have HM := n3_
              have HBW := n4_
              have HS := n5_
              have HD := n6_
              have HT := n7_
              clear n0_ n1_ n2_ n3_ n4_ n5_ n6_ n7_
              have c0 := HX.out.at 0 (.int .i64 k) rfl
              have c1 := HX.out.at 1 (.int .i64 f) rfl
              have c2 := HX.out.at 2 (.slice A cs.length ca) rfl
              have c3 := HX.out.at 3 (.slice B ds.length cb) rfl
              have p0 := HP.out.at 0 (.int .i64 2) rfl
              have p1 := HP.out.at 1 (.int .u8 s) rfl
              have p2 := HP.out.at 2 (.int .i64 0) rfl
              refine hK.out _ _ ⟨HX.out.at 0 (.int .i64 k) rfl, HX.out.at 1 (.int .i64 f) rfl, HX.out.at 2 (.slice A cs.length ca) rfl, HX.out.at 3 (.slice B ds.length cb) rfl, HP.out.at 0 (.int .i64 2) rfl, HP.out.at 1 (.int .u8 s) rfl, HP.out.at 2 (.int .i64 0) rfl⟩ (fun hHeld => ?_)
              clear hK K
              refine norm_ (a' := ?_) ?_ ?_
              rotate_left
              · show Act.put _ (some 57) _ = _
                simp only [Act.put, List.setIfInBounds_toArray, List.set_cons_zero, List.set_cons_succ, i64_w, i32_w]
                rfl
              refine one_ (i := 6) (N := some 62) #[true, true, true, true, true, true, true, false, false, false, true, false, false] rfl rfl (by kernel_rfl) (by decide) (fun K hK => ?_)
              refine goes_ Try.func21 (by kernel_rfl) rfl #[.agg #[.int .i64 k, .int .i64 f, .slice A cs.length ca, .slice B ds.length cb], .agg #[.int .i64 2, .int .u8 s, .int .i64 0], .int .i64 0, .int .i64 i, .slice (some ⟨tp + 1, 0, none⟩) 8 8] (by rfl) rfl rfl (by simp only [List.map_toArray, List.map_cons, List.map_nil]; rfl) ?_
              with_reducible refine (HND.out _ HB.out HM.out).mono ?_
              rintro e_ wc ⟨rfl, hb⟩
              refine ⟨_, rfl, ?_⟩
              have n0_ := Aside0.mk (below_then HB.out HB.out.size hb)
              have n1_ := Aside0.mk (HX.out.below hb)
              have n2_ := Aside0.mk (HP.out.below hb)
              have n3_ := Aside0.mk (Kd.C_below HM.out hb)
              have n4_ := Aside0.mk (below_then HBW.out HBW.out.size hb)
              have n5_ := Aside0.mk (HS.out.below hb)
              have n6_ := Aside0.mk (below_then HD.out HD.out.size hb)
              have n7_ := Aside0.mk (HT.out.below hb)
              clear HB HX HP HM HBW HS HD HT c0 c1 c2 c3 p0 p1 p2 hb
              have HB := n0_
              have HX := n1_
              have HP := n2_
              have HM := n3_
              have HBW := n4_
              have HS := n5_
              have HD := n6_
              have HT := n7_
              clear n0_ n1_ n2_ n3_ n4_ n5_ n6_ n7_
              have c0 := HX.out.at 0 (.int .i64 k) rfl
              have c1 := HX.out.at 1 (.int .i64 f) rfl
              have c2 := HX.out.at 2 (.slice A cs.length ca) rfl
              have c3 := HX.out.at 3 (.slice B ds.length cb) rfl
              have p0 := HP.out.at 0 (.int .i64 2) rfl
              have p1 := HP.out.at 1 (.int .u8 s) rfl
              have p2 := HP.out.at 2 (.int .i64 0) rfl
              refine hK.out _ _ ⟨HX.out.at 0 (.int .i64 k) rfl, HX.out.at 1 (.int .i64 f) rfl, HX.out.at 2 (.slice A cs.length ca) rfl, HX.out.at 3 (.slice B ds.length cb) rfl, HP.out.at 0 (.int .i64 2) rfl, HP.out.at 1 (.int .u8 s) rfl, HP.out.at 2 (.int .i64 0) rfl⟩ (fun hHeld => ?_)
              clear hK K
              refine norm_ (a' := ?_) ?_ ?_
              rotate_left
              · show Act.put _ (some 62) _ = _
                simp only [Act.put, List.setIfInBounds_toArray, List.set_cons_zero, List.set_cons_succ, i64_w, i32_w]
                rfl
              refine pure_ (i := 7) (N := some 55) (v := ?_) (a' := ?_) #[true, true, true, true, true, true, true, true, false, false, true, false, false] rfl rfl (by kernel_rfl) (fun _ _ _ h => h) (Or.inl ⟨by rfl, ?_⟩) ?_ ?_
              rotate_left
              · intro w'
                go_simp
                with_reducible rfl
              rotate_left
              · simp only [Act.put, List.setIfInBounds_toArray, List.set_cons_zero, List.set_cons_succ, i64_w, i32_w]
                rfl
              refine pure_ (i := 8) (N := some 63) (v := ?_) (a' := ?_) #[true, true, true, true, true, true, true, true, true, false, true, false, false] rfl rfl (by kernel_rfl) (fun _ _ _ h => h) (Or.inl ⟨by rfl, ?_⟩) ?_ ?_
              rotate_left
              · intro w'
                go_simp
                with_reducible rfl
              rotate_left
              · simp only [Act.put, List.setIfInBounds_toArray, List.set_cons_zero, List.set_cons_succ, i64_w, i32_w]
                rfl
              refine pure_ (i := 9) (N := some 64) (v := ?_) (a' := ?_) #[true, true, true, true, true, true, true, true, true, true, true, false, false] rfl rfl (by kernel_rfl) (fun _ _ _ h => h) (Or.inl ⟨by rfl, ?_⟩) ?_ ?_
              rotate_left
              · intro w'
                go_simp
                with_reducible rfl
              rotate_left
              · simp only [Act.put, List.setIfInBounds_toArray, List.set_cons_zero, List.set_cons_succ, i64_w, i32_w]
                rfl
              exact norm_ (by simp only [putAll, Act.put, List.setIfInBounds_toArray, List.set_cons_zero, List.set_cons_succ]) (hCont wd.heap.size _ ⟨HT.out, HSZ.out, HD.out⟩)
          rintro tb wj ⟨hT, hS, hD⟩
          have HT := Aside0.mk hT
          have HSB := Aside0.mk hS
          have HD2 := Aside0.mk hD
          clear hT hS hD
          have t0 := HT.out.at 0 (.int .i64 0) rfl
          have t1 := HT.out.at 1 (.int .i64 0) rfl
          have t2 := HT.out.at 2 (.int .i64 0) rfl
          have g0 := HT.out.fz 0
          have g1 := HT.out.fz 1
          have g2 := HT.out.fz 2
          have hHeld : wj.cell? ⟨w.heap.size, 0, none⟩ = some (.int .i64 k) ∧ wj.cell? ⟨w.heap.size, 1, none⟩ = some (.int .i64 f) ∧ wj.cell? ⟨w.heap.size, 2, none⟩ = some (.slice A cs.length ca) ∧ wj.cell? ⟨w.heap.size, 3, none⟩ = some (.slice B ds.length cb) ∧ wj.cell? ⟨tp, 0, none⟩ = some (.int .i64 2) ∧ wj.cell? ⟨tp, 1, none⟩ = some (.int .u8 s) ∧ wj.cell? ⟨tp, 2, none⟩ = some (.int .i64 0) := ⟨(HX.out.below HD2.out).at 0 (.int .i64 k) rfl, (HX.out.below HD2.out).at 1 (.int .i64 f) rfl, (HX.out.below HD2.out).at 2 (.slice A cs.length ca) rfl, (HX.out.below HD2.out).at 3 (.slice B ds.length cb) rfl, (HP.out.below HD2.out).at 0 (.int .i64 2) rfl, (HP.out.below HD2.out).at 1 (.int .u8 s) rfl, (HP.out.below HD2.out).at 2 (.int .i64 0) rfl⟩
          refine norm_ (a' := ?_) ?_ ?_
          rotate_left
          · simp only [putAll, Act.put, List.setIfInBounds_toArray, List.set_cons_zero, List.set_cons_succ]
            rfl
          refine last_ (i := 11) (N := none) #[true, true, true, true, true, true, true, true, true, true, true, true, false] rfl rfl (by kernel_rfl) (by decide) (fun K hK => ?_)
          refine skip_ (w1 := ?_) (by rfl) rfl ?_ ?_
          rotate_left
          · go_simp
            rfl
          refine hK.out _ _ ?_
          clear hK K
          refine pure_ (i := 12) (N := some 14) (v := ?_) (a' := ?_) #[true, true, true, true, true, true, true, true, true, true, true, true, true] rfl rfl (by kernel_rfl) (fun _ _ _ h => h) (Or.inl ⟨by rfl, ?_⟩) ?_ ?_
          rotate_left
          · intro w'
            go_simp
            with_reducible rfl
          rotate_left
          · simp only [Act.put, List.setIfInBounds_toArray, List.set_cons_zero, List.set_cons_succ, i64_w, i32_w]
            rfl
          refine done_ (by kernel_rfl) ?_
          have hb_ := below_put3 HD2.out HSB.out (.int .i64 q) (.int .i64 q) (.int .i64 q)
          have HT3 := Aside0.mk (HT.out.put3 (.int .i64 q) (.int .i64 q) (.int .i64 q))
          clear HT t0 t1 t2 g0 g1 g2 hHeld
          have n0_ := Aside0.mk (below_then HB.out HB.out.size hb_)
          have n1_ := Aside0.mk (HX.out.below hb_)
          have n2_ := Aside0.mk (HP.out.below hb_)
          have n3_ := Aside0.mk (Kd.C_below HM.out hb_)
          have n4_ := Aside0.mk (below_then HBW.out HBW.out.size hb_)
          have n5_ := Aside0.mk (HS.out.below hb_)
          clear HB HX HP HM HBW HS c0 c1 c2 c3 p0 p1 p2 hb_
          have HB := n0_
          have HX := n1_
          have HP := n2_
          have HM := n3_
          have HBW := n4_
          have HS := n5_
          clear n0_ n1_ n2_ n3_ n4_ n5_
          have c0 := HX.out.at 0 (.int .i64 k) rfl
          have c1 := HX.out.at 1 (.int .i64 f) rfl
          have c2 := HX.out.at 2 (.slice A cs.length ca) rfl
          have c3 := HX.out.at 3 (.slice B ds.length cb) rfl
          have p0 := HP.out.at 0 (.int .i64 2) rfl
          have p1 := HP.out.at 1 (.int .u8 s) rfl
          have p2 := HP.out.at 2 (.int .i64 0) rfl
          have HNE := Aside0.mk (show tb ≠ w3.heap.size by have := HSL.out; have := HSB.out; omega)
          clear HSL
          clear HD2 HSB HD
          have HT := HT3
          clear HT3
          generalize ((wj.setCell ⟨tb, 0, none⟩ (.int .i64 q)).setCell ⟨tb, 1, none⟩ (.int .i64 q)).setCell ⟨tb, 2, none⟩ (.int .i64 q) = wz at *
          have t0 := HT.out.at 0 (.int .i64 q) rfl
          have t1 := HT.out.at 1 (.int .i64 q) rfl
          have s0 := HS.out.at q (.bool false) (by
            unfold seenC
            rw [List.getElem?_toArray, List.getElem?_map, List.getElem?_range (by omega)]
            simp [HNW.out])
          have sf := HS.out.fz q
          go_upto_region 19 with fail
          have n0_ := Aside0.mk (HT.out.other ⟨w3.heap.size, q, none⟩ HNE.out (.bool true))
          have n1_ := Aside0.mk (show Blk (wz.setCell ⟨w3.heap.size, q, none⟩ (.bool true)) w3.heap.size (seenC (turnL k) (i + 1)) 46 from by rw [← seen_set (turnL k) i q HTG.out (by omega)]; exact HS.out.set q (.bool true))
          have n2_ := Aside0.mk (RowKit.Below.setCell (p := ⟨w3.heap.size, q, none⟩) HBW.out (Nat.le_refl _) (.bool true))
          clear HT HS HBW HX HP HM HB c0 c1 c2 c3 p0 p1 p2 t0 t1 s0 sf
          generalize wz.setCell ⟨w3.heap.size, q, none⟩ (.bool true) = wy at *
          have t2 := n0_.out.at 2 (.int .i64 q) rfl
          go_wp2_with fail
          go_roundw
          case rel => exact ⟨i + 1, by go_num, by rw [HQ.out], by omega, n2_.out, n1_.out⟩
          case measure => simp [intOf]; omega
      · obtain rfl : i = k := by omega
        have hib : decide (i < i) = false := decide_eq_false hik
        go_wp2_with fail
        go_ret
        exact ⟨rfl, HB.out⟩
  · have b1 : (c != 0) = true := by simpa using hc0
    clear HCV
    go_wp2_with (first | (go_at_call 25; (with_reducible refine (chooses_own _).mono ?_); rintro e_ w5 ⟨rfl, hb⟩; have n0_ := Aside0.mk (below_then HB.out HB.out.size hb); have n1_ := Aside0.mk (HX.out.below hb); clear HB HX c0 c1 c2 c3 hb; have HB := n0_; have HX := n1_; clear n0_ n1_; have c0 := HX.out.at 0 (.int .i64 n) rfl; have c1 := HX.out.at 1 (.int .i64 f) rfl; have c2 := HX.out.at 2 (.slice A cs.length ca) rfl; have c3 := HX.out.at 3 (.slice B ds.length cb) rfl) | (go_at_call 16; (with_reducible refine (HCK.out _ HB.out).mono ?_); rintro e_ w6 ⟨rfl, hb⟩; have n0_ := Aside0.mk (below_then HB.out HB.out.size hb); have n1_ := Aside0.mk (HX.out.below hb); clear HB HX c0 c1 c2 c3 hb; have HB := n0_; have HX := n1_; clear n0_ n1_; have c0 := HX.out.at 0 (.int .i64 n) rfl; have c1 := HX.out.at 1 (.int .i64 f) rfl; have c2 := HX.out.at 2 (.slice A cs.length ca) rfl; have c3 := HX.out.at 3 (.slice B ds.length cb) rfl))
    go_ret
    exact ⟨rfl, HB.out⟩
end Go.Proofs.Ytffmhpfdfcpniaa.T
