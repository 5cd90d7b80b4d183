/- The law ChooseTells, walked. -/
import Derived.Test.YtffmhpfdfcpniaaAH
import Derived.Deep.DeepCutAuto
import Derived.ChangeKeysEq
namespace Go.Proofs.Ytffmhpfdfcpniaa.T
open Go.RowKit Go.Proofs.YtffmhpfdfcpniaaW.PrintWords Go.Proofs.YtffmhpfdfcpniaaW.PrintLast Go.Proofs.YtffmhpfdfcpniaaW.PrintMore Go.Proofs.Ytffmhpfdfcpniaa.PH
set_option linter.unusedVariables false
set_option linter.unusedSimpArgs false
theorem Blk.store4 {w : World} {b g : Nat} {cs : Array Value} {t : TypeId} (h : Blk w b cs t) (hp : b ≠ g) (v0 v1 v2 v3 : Value) : Blk ((((w.setCell ⟨g, 0, none⟩ v0).setCell ⟨g, 1, none⟩ v1).setCell ⟨g, 2, none⟩ v2).setCell ⟨g, 3, none⟩ v3) b cs t :=
  (((h.other ⟨g, 0, none⟩ hp v0).other ⟨g, 1, none⟩ hp v1).other ⟨g, 2, none⟩ hp v2).other ⟨g, 3, none⟩ hp v3
theorem Blk.put4 {w : World} {b : Nat} {t : TypeId} {a0 a1 a2 a3 : Value} (h : Blk w b #[a0, a1, a2, a3] t) (v0 v1 v2 v3 : Value) : Blk ((((w.setCell ⟨b, 0, none⟩ v0).setCell ⟨b, 1, none⟩ v1).setCell ⟨b, 2, none⟩ v2).setCell ⟨b, 3, none⟩ v3) b #[v0, v1, v2, v3] t := (((h.set 0 v0).set 1 v1).set 2 v2).set 3 v3
/-- Two rows of three numbers that are the same are equal. -/
theorem eq_arr (a b c : Int) (w : World) : (Op.equalIn 10000 59 (.agg #[.int .i64 a, .int .i64 b, .int .i64 c]) (.agg #[.int .i64 a, .int .i64 b, .int .i64 c])).run Try.prog w = .ok true w := by
  have hi0 : (Try.prog.info? 3).isSome = true := by kernel_rfl
  obtain ⟨i, hi⟩ := Option.isSome_iff_exists.1 hi0
  have hc : Try.prog.cellsOf 3 = 1 := by kernel_rfl
  have hp : Try.prog.plainKey 3 = true := by kernel_rfl
  obtain ⟨D, hD⟩ : ∃ D, D + 1 = 9999 := ⟨9998, rfl⟩
  rw [show (10000 : Nat) = 9999 + 1 from rfl, run_equalIn_array w 9999 _ _ Try.underlying59 hi, hc, show List.range 3 = [0, 1, 2] from rfl]
  have q : ∀ (x : Int) (W : World), (Op.equalIn 9999 3 (.int .i64 x) (.int .i64 x)).run Try.prog W = .ok true W := fun x W => by
    rw [← hD, run_equalIn_int W D 3 .i64 .i64 x x Try.underlying3]; simp
  simp only [Op.eqItems, Sem.run_bind]
  rw [run_part_plain w hp (off := 0 * 1) (v := .int .i64 a) rfl]
  simp only [Result.andThen_ok]
  rw [run_part_plain w hp (off := 0 * 1) (v := .int .i64 a) rfl]
  simp only [Result.andThen_ok, q, Bool.not_true, Bool.false_eq_true, if_false, Sem.run_bind]
  rw [run_part_plain w hp (off := 1 * 1) (v := .int .i64 b) rfl]
  simp only [Result.andThen_ok]
  rw [run_part_plain w hp (off := 1 * 1) (v := .int .i64 b) rfl]
  simp only [Result.andThen_ok, q, Bool.not_true, Bool.false_eq_true, if_false, Sem.run_bind]
  rw [run_part_plain w hp (off := 2 * 1) (v := .int .i64 c) rfl]
  simp only [Result.andThen_ok]
  rw [run_part_plain w hp (off := 2 * 1) (v := .int .i64 c) rfl]
  simp only [Result.andThen_ok, q, Bool.not_true, Bool.false_eq_true, if_false, Sem.run_pure]
theorem eqg_arr (x y : Operand) (xs ys : Array Value) (w : World) : (eqGuard .eql 59 x y (.agg xs) (.agg ys)).run Try.prog w = .ok () w := run_eqGuard_agg w .eql 59 x y xs ys (by kernel_rfl)
attribute [local go_sem] eq_arr eqg_arr run_eql_struct
/-- A new slice without cells is a row of its own. -/
theorem R_openB {w : World} {t base q : Nat} {ok : Nat → Prop} {v : Value} {xs : List Bool} (h : Kd.R Kd.bool t w base ok v xs) (hq : xs.length = q) : ∃ A c, v = .slice A q c ∧ q ≤ c ∧ Kd.C Kd.bool w A q xs := by
  subst hq
  exact Kd.R_reads h
theorem R_empty (W : World) (ok : Nat → Prop) (hok : ok W.heap.size) (base : Nat) (hb : base ≤ W.heap.size) : Kd.R Kd.bool 4 (W.alloc (.cells #[] 4)) base ok (.slice (some ⟨W.heap.size, 0, none⟩) 0 0) [] := by
  refine Kd.R_of_own (xs := ([] : List Bool)) ⟨rfl, .inr ⟨W.heap.size, 0, #[], rfl, hb, heap_alloc_new _ _, Nat.le_refl _, by decide, rfl, rfl⟩⟩ (fun k hk => ?_)
  simp [Value.ownBlock] at hk
  subst hk
  exact hok
set_option maxHeartbeats 4000000 in
set_option maxRecDepth 100000 in
theorem tells_own (n f : Int) (A : Option Addr) (ca : Nat) (cpus : List Int) (B : Option Addr) (cb : Nat) (dist : List (List Int)) (m : Int) (s : Nat) (hs : s < 256) (nd cpu cur : Int) (M : Option Addr) (cm : Nat) (may : List Bool) (w : World) (hr2 : Kd.C (Kd.int .i64) w A cpus.length cpus) (hca : cpus.length ≤ ca) (hr3 : Kd.C (Kd.slice 3 (Kd.int .i64)) w B dist.length dist) (hcb : dist.length ≤ cb) (hrm : Kd.C Kd.bool w M may.length may) (hcm : may.length ≤ cm) :
    Calls Try.prog 6 #[.agg #[.int .i64 n, .int .i64 f, .slice A cpus.length ca, .slice B dist.length cb], .agg #[.int .i64 m, .int .u8 s, .int .i64 nd], .agg #[.int .i64 cpu, .int .i64 cur, .slice M may.length cm]] w fun e w' => e = .returned (.bool true) ∧ RowKit.Below w.heap.size w w' := by
  obtain ⟨cs, hcs⟩ : ∃ cs, cpus.take 20 = cs := ⟨_, rfl⟩
  obtain ⟨ds, hds⟩ : ∃ ds, dist.take 10 = ds := ⟨_, rfl⟩
  obtain ⟨mm, hmm⟩ : ∃ mm, may.take 10 = mm := ⟨_, rfl⟩
  obtain ⟨lq, hlq⟩ : ∃ lq, mm.length = lq := ⟨_, rfl⟩
  obtain ⟨lm, hlm⟩ : ∃ lm, may.length = lm := ⟨_, rfl⟩
  have h20 : min cpus.length 20 = cs.length := by rw [← hcs, List.length_take]; omega
  have h10 : min dist.length 10 = ds.length := by rw [← hds, List.length_take]; omega
  have hm10 : min lm 10 = lq := by rw [← hlq, ← hmm, List.length_take]; omega
  have HTM := Aside0.mk (fun (W : World) => tame11_own n f A cpus.length ca B dist.length cb cs.length ds.length W h20 h10 hca hcb hr2.2.1 hr3.2.1)
  have HC2 := Aside0.mk (show Kd.C (Kd.int .i64) w A cs.length cs from hcs ▸ C_take' hr2 20)
  have HC3 := Aside0.mk (show Kd.C (Kd.slice 3 (Kd.int .i64)) w B ds.length ds from hds ▸ C_take' hr3 10)
  have HCM := Aside0.mk (show Kd.C Kd.bool w M mm.length mm from hmm ▸ C_take' hrm 10)
  have hca' : cs.length ≤ ca := by omega
  have hcb' : ds.length ≤ cb := by omega
  obtain ⟨⟨v0, v1, v2, er⟩, hv⟩ : ∃ v, chV n f cs ds m s nd cpu cur mm = v := ⟨_, rfl⟩
  have HN0 := Aside0.mk (show ∀ (W : World) (M : Option Addr) (c : Nat), RowKit.Below w.heap.size w W → Kd.C Kd.bool W M lq mm → Calls Try.prog 21 #[.agg #[.int .i64 n, .int .i64 f, .slice A cs.length ca, .slice B ds.length cb], .agg #[.int .i64 m, .int .u8 s, .int .i64 nd], .int .i64 cpu, .int .i64 cur, .slice M lq c] W (fun e w' => e = .returned (.tuple #[.agg #[.int .i64 v0, .int .i64 v1, .int .i64 v2], .int .i64 er]) ∧ RowKit.Below W.heap.size W w') from fun W M c hW hM => by
    have := node_own n f A ca cs B cb ds m s hs nd cpu cur M c mm W (Kd.C_below HC2.out hW) hca' (Kd.C_below HC3.out hW) hcb' (by rw [hlq]; exact hM)
    rw [hv, hlq] at this
    exact this)
  have HF0 := Aside0.mk (show ∀ (W : World) (M : Option Addr) (c : Nat), RowKit.Below w.heap.size w W → Kd.C Kd.bool W M lq mm → Calls Try.prog 24 #[.agg #[.int .i64 n, .int .i64 f, .slice A cs.length ca, .slice B ds.length cb], .agg #[.int .i64 m, .int .u8 s, .int .i64 nd], .int .i64 cpu, .int .i64 cur, .slice M lq c] W (fun e w' => e = .returned (.tuple #[.agg #[.int .i64 v0, .int .i64 v1, .int .i64 v2], .int .i64 er]) ∧ RowKit.Below W.heap.size W w') from fun W M c hW hM => by
    have := refnode_own n f A ca cs B cb ds m s hs nd cpu cur M c mm W (Kd.C_below HC2.out hW) hca' (Kd.C_below HC3.out hW) hcb' (by rw [hlq]; exact hM)
    rw [hv, hlq] at this
    exact this)
  have info4 : (Try.prog.info? 4).map (fun i => (i.zero, i.size, i.bytes)) = some (some (.bool false), 1, 1) := by kernel_rfl
  have hq10 : lq ≤ 10 := by omega
  have hlcm : lm ≤ cm := by omega
  have HMM := Aside0.mk hlq
  rw [hlm]
  rw [hlq] at HCM
  clear hr2 hr3 hrm hcm h20 h10 hcs hds hmm hlq hlm hv
  go_enter Try.func6, Try.ntmps6
  go_upto_region 2 with (go_at_call 20; (with_reducible refine (HTM.out _).mono ?_); rintro e_ w2 ⟨rfl, hb⟩; have HX := Aside0.mk ((((Blk.new w #[.int .i64 n, .int .i64 f, .slice A cpus.length ca, .slice B dist.length cb] 25).alloc _).alloc _).below hb); have HP := Aside0.mk (((Blk.new1 w _ #[.int .i64 m, .int .u8 s, .int .i64 nd] 49).alloc _).below hb); have HA := Aside0.mk ((Blk.new2 w _ _ #[.int .i64 cpu, .int .i64 cur, .slice M lm cm] 51).below hb); have HB := Aside0.mk (below_then (below_alloc (below_alloc (below_alloc (RowKit.Below.refl w.heap.size w) _) _) _) (below_alloc (below_alloc (below_alloc (RowKit.Below.refl w.heap.size w) _) _) _).size hb); clear hb; have c0 := HX.out.at 0 (.int .i64 n) rfl; have c1 := HX.out.at 1 (.int .i64 f) rfl; have c2 := HX.out.at 2 (.slice A cpus.length ca) rfl; have c3 := HX.out.at 3 (.slice B dist.length cb) rfl; have f0 := HX.out.fz 0; have f1 := HX.out.fz 1; have f2 := HX.out.fz 2; have f3 := HX.out.fz 3)
  have n0_ := Aside0.mk (HX.out.put4 (.int .i64 n) (.int .i64 f) (.slice A cs.length ca) (.slice B ds.length cb))
  have n1_ := Aside0.mk (HP.out.store4 (g := w.heap.size) (by omega) (.int .i64 n) (.int .i64 f) (.slice A cs.length ca) (.slice B ds.length cb))
  have n2_ := Aside0.mk (HA.out.store4 (g := w.heap.size) (by omega) (.int .i64 n) (.int .i64 f) (.slice A cs.length ca) (.slice B ds.length cb))
  have n3_ := Aside0.mk (below_store HB.out (Nat.le_refl _) (.int .i64 n) (.int .i64 f) (.slice A cs.length ca) (.slice B ds.length cb))
  clear HX HP HA HB c0 c1 c2 c3 f0 f1 f2 f3
  generalize (((w2.setCell { block := w.heap.size, off := 0 } (Value.int IntKind.i64 n)).setCell { block := w.heap.size, off := 1 } (Value.int IntKind.i64 f)).setCell { block := w.heap.size, off := 2 } (Value.slice A cs.length ca)).setCell { block := w.heap.size, off := 3 } (Value.slice B ds.length cb) = W at *
  have HX := n0_
  have HP := n1_
  have HA := n2_
  have HB := n3_
  clear n0_ n1_ n2_ n3_ HTM
  have c0 := HX.out.at 0 (.int .i64 n) rfl
  have c1 := HX.out.at 1 (.int .i64 f) rfl
  have c2 := HX.out.at 2 (.slice A cs.length ca) rfl
  have c3 := HX.out.at 3 (.slice B ds.length cb) rfl
  have p0 := HP.out.at 0 (.int .i64 m) rfl
  have p1 := HP.out.at 1 (.int .u8 s) rfl
  have p2 := HP.out.at 2 (.int .i64 nd) rfl
  have a0 := HA.out.at 0 (.int .i64 cpu) rfl
  have a1 := HA.out.at 1 (.int .i64 cur) rfl
  have a2 := HA.out.at 2 (.slice M lm cm) rfl
  have a2_ := (HA.out.alloc (.cells #[] 4)).at 2 (.slice M lm cm) rfl
  go_cut [7] from 14 to 22 (fun t7 wc => ∃ A7 c7, t7 = .slice A7 lq c7 ∧ Kd.C Kd.bool wc A7 lq mm ∧ RowKit.Below W.heap.size W wc)
  case first =>
    rcases Nat.lt_or_ge 10 lm with hlt | hge
    · have i1 : 10 < (lm : Int) := by omega
      have e1 : (min (lm : Int) 10).toNat = lq := by omega
      clear hm10
      go_wp2_with ((with_reducible refine gate_builtin (b := .append) (xs := #[.tmp 14, .tmp 21]) rfl ?_); at_builtin; refine Kd.R_append_rows Kd.bool (w0 := W) W.heap.size rfl (.tmp 14) (.tmp 21) 26 4 (.bool false) 1 rfl Try.underlying26 info4 rfl (by decide) (by omega) _ ([] : List Bool) mm M lq cm (fun _ => True) (fun _ => False) rfl rfl ?aO ?aR (fun _ _ h => h) (fun _ h => h.elim) ?aF ?aB ?aS ?aL ?_; (case aO => exact R_empty W _ trivial _ (Nat.le_refl _)); (case aR => exact Kd.C_below HCM.out (below_alloc HB.out _)); (case aB => exact below_alloc (RowKit.Below.refl _ _) _); (case aF => exact (fun _ _ => trivial)); (case aS => simp); (case aL => simp; omega); intro v7 w7 ho hb hg hat; have HO7 := Aside0.mk ho; have HB7 := Aside0.mk hb; clear ho hb hg hat)
      all_goals first | (exfalso; omega) | skip
      go_meet
      case rel =>
        obtain ⟨A7, c7, rfl, _, h7⟩ := R_openB HO7.out HMM.out
        exact ⟨A7, c7, rfl, h7, HB7.out⟩
    · have i1 : (lm : Int) ≤ 10 := by omega
      have e1 : (min (lm : Int) 10).toNat = lq := by omega
      clear hm10
      go_wp2_with ((with_reducible refine gate_builtin (b := .append) (xs := #[.tmp 14, .tmp 21]) rfl ?_); at_builtin; refine Kd.R_append_rows Kd.bool (w0 := W) W.heap.size rfl (.tmp 14) (.tmp 21) 26 4 (.bool false) 1 rfl Try.underlying26 info4 rfl (by decide) (by omega) _ ([] : List Bool) mm M lq cm (fun _ => True) (fun _ => False) rfl rfl ?aO ?aR (fun _ _ h => h) (fun _ h => h.elim) ?aF ?aB ?aS ?aL ?_; (case aO => exact R_empty W _ trivial _ (Nat.le_refl _)); (case aR => exact Kd.C_below HCM.out (below_alloc HB.out _)); (case aB => exact below_alloc (RowKit.Below.refl _ _) _); (case aF => exact (fun _ _ => trivial)); (case aS => simp); (case aL => simp; omega); intro v7 w7 ho hb hg hat; have HO7 := Aside0.mk ho; have HB7 := Aside0.mk hb; clear ho hb hg hat)
      all_goals first | (exfalso; omega) | skip
      go_meet
      case rel =>
        obtain ⟨A7, c7, rfl, _, h7⟩ := R_openB HO7.out HMM.out
        exact ⟨A7, c7, rfl, h7, HB7.out⟩
  case rest =>
  obtain ⟨A7, c7, rfl, hM, hb⟩ := hcut
  have HM := Aside0.mk hM
  clear a2_ hM hm10
  have n0_ := Aside0.mk (below_then HB.out HB.out.size hb)
  have n1_ := Aside0.mk (HX.out.below hb)
  have n2_ := Aside0.mk (HP.out.below hb)
  have n3_ := Aside0.mk (HA.out.below hb)
  clear HB HX HP HA c0 c1 c2 c3 p0 p1 p2 a0 a1 a2 hb
  have HB := n0_
  have HX := n1_
  have HP := n2_
  have HA := n3_
  clear n0_ n1_ n2_ n3_
  have c0 := HX.out.at 0 (.int .i64 n) rfl
  have c1 := HX.out.at 1 (.int .i64 f) rfl
  have c2 := HX.out.at 2 (.slice A cs.length ca) rfl
  have c3 := HX.out.at 3 (.slice B ds.length cb) rfl
  have p0 := HP.out.at 0 (.int .i64 m) rfl
  have p1 := HP.out.at 1 (.int .u8 s) rfl
  have p2 := HP.out.at 2 (.int .i64 nd) rfl
  have a0 := HA.out.at 0 (.int .i64 cpu) rfl
  have a1 := HA.out.at 1 (.int .i64 cur) rfl
  have a2 := HA.out.at 2 (.slice M lm cm) rfl
  go_upto_region 3 with fail
  refine start_ (n := 16) (S := fun w' => w'.cell? ⟨w.heap.size, 0, none⟩ = some (.int .i64 n) ∧ w'.cell? ⟨w.heap.size, 1, none⟩ = some (.int .i64 f) ∧ w'.cell? ⟨w.heap.size, 2, none⟩ = some (.slice A cs.length ca) ∧ w'.cell? ⟨w.heap.size, 3, none⟩ = some (.slice B ds.length cb) ∧ w'.cell? ⟨w.heap.size + 1, 0, none⟩ = some (.int .i64 m) ∧ w'.cell? ⟨w.heap.size + 1, 1, none⟩ = some (.int .u8 s) ∧ w'.cell? ⟨w.heap.size + 1, 2, none⟩ = some (.int .i64 nd) ∧ w'.cell? ⟨w.heap.size + 1 + 1, 0, none⟩ = some (.int .i64 cpu) ∧ w'.cell? ⟨w.heap.size + 1 + 1, 1, none⟩ = some (.int .i64 cur)) (ds := [14]) #[false, false, false, false, false, false, false, false, false, false, false, false, false, false, false, false] (by kernel_rfl) rfl rfl ⟨c0, c1, c2, c3, p0, p1, p2, a0, a1⟩ (fun hHeld => ?_)
  have hd_ := below_drew (RowKit.Below.refl wc.heap.size wc)
  have n0_ := Aside0.mk (below_then HB.out HB.out.size hd_)
  have n1_ := Aside0.mk (HX.out.below hd_)
  have n2_ := Aside0.mk (HP.out.below hd_)
  have n3_ := Aside0.mk (HA.out.below hd_)
  have n4_ := Aside0.mk (Kd.C_below HM.out hd_)
  clear HB HX HP HA HM c0 c1 c2 c3 p0 p1 p2 a0 a1 a2 hd_
  have HB := n0_
  have HX := n1_
  have HP := n2_
  have HA := n3_
  have HM := n4_
  clear n0_ n1_ n2_ n3_ n4_
  have c0 := HX.out.at 0 (.int .i64 n) rfl
  have c1 := HX.out.at 1 (.int .i64 f) rfl
  have c2 := HX.out.at 2 (.slice A cs.length ca) rfl
  have c3 := HX.out.at 3 (.slice B ds.length cb) rfl
  have p0 := HP.out.at 0 (.int .i64 m) rfl
  have p1 := HP.out.at 1 (.int .u8 s) rfl
  have p2 := HP.out.at 2 (.int .i64 nd) rfl
  have a0 := HA.out.at 0 (.int .i64 cpu) rfl
  have a1 := HA.out.at 1 (.int .i64 cur) rfl
  have a2 := HA.out.at 2 (.slice M lm cm) rfl
  generalize wc.drew = wd at *
  have HD := Aside0.mk (RowKit.Below.refl wd.heap.size wd)
  refine pure_ (i := 4) (N := some 28) (v := ?_) (a' := ?_) #[false, false, false, false, true, false, false, false, false, false, false, false, false, false, false, false] rfl rfl (by kernel_rfl) (fun _ _ _ h => h) (Or.inl ⟨by rfl, ?_⟩) ?_ ?_
  rotate_left
  · intro w'
    go_simp
    with_reducible rfl
  rotate_left
  · simp only [Act.put, List.setIfInBounds_toArray, List.set_cons_zero, List.set_cons_succ, i64_w, i32_w]
    rfl
  refine pure_ (i := 6) (N := some 30) (v := ?_) (a' := ?_) #[false, false, false, false, true, false, true, false, false, false, false, false, false, false, false, false] rfl rfl (by kernel_rfl) (fun _ _ _ h => h) (Or.inl ⟨by rfl, ?_⟩) ?_ ?_
  rotate_left
  · intro w'
    go_simp
    with_reducible rfl
  rotate_left
  · simp only [Act.put, List.setIfInBounds_toArray, List.set_cons_zero, List.set_cons_succ, i64_w, i32_w]
    rfl
  refine pure_ (i := 8) (N := some 32) (v := ?_) (a' := ?_) #[false, false, false, false, true, false, true, false, true, false, false, false, false, false, false, false] rfl rfl (by kernel_rfl) (fun _ _ _ h => h) (Or.inl ⟨by rfl, ?_⟩) ?_ ?_
  rotate_left
  · intro w'
    go_simp
    with_reducible rfl
  rotate_left
  · simp only [Act.put, List.setIfInBounds_toArray, List.set_cons_zero, List.set_cons_succ, i64_w, i32_w]
    rfl
  refine take_ (i := 0) (N := some 24) (v := ?_) (a' := ?_) #[true, false, false, false, true, false, true, false, true, false, false, false, false, false, false, false] rfl rfl (by kernel_rfl) (fun _ _ _ h => h) (Or.inl ⟨by rfl, ?_⟩) hHeld ?_ ?_
  rotate_left
  · rintro w' ⟨s0, s1, s2, s3, s4, s5, s6, s7, s8⟩
    go_simp
    with_reducible rfl
  rotate_left
  · simp only [Act.put, List.setIfInBounds_toArray, List.set_cons_zero, List.set_cons_succ, i64_w, i32_w]
    rfl
  refine take_ (i := 2) (N := some 26) (v := ?_) (a' := ?_) #[true, false, true, false, true, false, true, false, true, false, false, false, false, false, false, false] rfl rfl (by kernel_rfl) (fun _ _ _ h => h) (Or.inl ⟨by rfl, ?_⟩) hHeld ?_ ?_
  rotate_left
  · rintro w' ⟨s0, s1, s2, s3, s4, s5, s6, s7, s8⟩
    go_simp
    with_reducible rfl
  rotate_left
  · simp only [Act.put, List.setIfInBounds_toArray, List.set_cons_zero, List.set_cons_succ, i64_w, i32_w]
    rfl
  refine take_ (i := 5) (N := some 29) (v := ?_) (a' := ?_) #[true, false, true, false, true, true, true, false, true, false, false, false, false, false, false, false] rfl rfl (by kernel_rfl) (fun _ _ _ h => h) (Or.inl ⟨by rfl, ?_⟩) hHeld ?_ ?_
  rotate_left
  · rintro w' ⟨s0, s1, s2, s3, s4, s5, s6, s7, s8⟩
    go_simp
    with_reducible rfl
  rotate_left
  · simp only [Act.put, List.setIfInBounds_toArray, List.set_cons_zero, List.set_cons_succ, i64_w, i32_w]
    rfl
  refine take_ (i := 7) (N := some 31) (v := ?_) (a' := ?_) #[true, false, true, false, true, true, true, true, true, false, false, false, false, false, false, false] rfl rfl (by kernel_rfl) (fun _ _ _ h => h) (Or.inl ⟨by rfl, ?_⟩) hHeld ?_ ?_
  rotate_left
  · rintro w' ⟨s0, s1, s2, s3, s4, s5, s6, s7, s8⟩
    go_simp
    with_reducible rfl
  rotate_left
  · simp only [Act.put, List.setIfInBounds_toArray, List.set_cons_zero, List.set_cons_succ, i64_w, i32_w]
    rfl
  refine join_ (σ := Nat) 2 #[true, true, true, true, true, true, true, true, true, true, true, true, true, true, false, false] (fun sg_ => [(25, .agg #[.int .i64 n, .int .i64 f, .slice A cs.length ca, .slice B ds.length cb]), (27, .agg #[.int .i64 m, .int .u8 s, .int .i64 nd]), (33, .tuple #[.agg #[.int .i64 v0, .int .i64 v1, .int .i64 v2], .int .i64 er]), (8, .pointer (some ⟨sg_, 0, none⟩)), (23, .tuple #[.agg #[.int .i64 v0, .int .i64 v1, .int .i64 v2], .int .i64 er]), (34, .agg #[.int .i64 v0, .int .i64 v1, .int .i64 v2]), (35, .int .i64 er)]) (fun sg_ w_ => Blk w_ sg_ #[.int .i64 0, .int .i64 0, .int .i64 0] 53 ∧ wd.heap.size ≤ sg_ ∧ RowKit.Below wd.heap.size wd w_) ?_ ?_
  rotate_left
  · intro hCont
    refine two_ (i := 1) (j := 13) (Ni := some 25) (Nj := some 8) #[true, true, true, false, true, true, true, true, true, false, false, false, false, false, false, false] #[true, false, true, false, true, true, true, true, true, false, false, false, false, true, false, false] rfl rfl rfl rfl (by kernel_rfl) (by decide) (by decide) (fun K hK => ?_) (fun K hK => ?_)
    · skip
      refine goes_ Try.func22 (by kernel_rfl) rfl #[.agg #[.int .i64 n, .int .i64 f, .slice A cs.length ca, .slice B ds.length cb]] (by rfl) rfl rfl (by simp only [List.map_toArray, List.map_cons, List.map_nil]; rfl) ?_
      with_reducible refine (machine_own n f A cs.length ca B ds.length cb _).mono ?_
      rintro e_ wa ⟨rfl, hb⟩
      refine ⟨_, rfl, ?_⟩
      have n0_ := Aside0.mk (below_then HB.out HB.out.size hb)
      have n1_ := Aside0.mk (HX.out.below hb)
      have n2_ := Aside0.mk (HP.out.below hb)
      have n3_ := Aside0.mk (HA.out.below hb)
      have n4_ := Aside0.mk (Kd.C_below HM.out hb)
      have n5_ := Aside0.mk (below_then HD.out HD.out.size hb)
      clear HB HX HP HA HM HD c0 c1 c2 c3 p0 p1 p2 a0 a1 a2 hb
      have HB := n0_
      have HX := n1_
      have HP := n2_
      have HA := n3_
      have HM := n4_
      have HD := n5_
      clear n0_ n1_ n2_ n3_ n4_ n5_
      have c0 := HX.out.at 0 (.int .i64 n) rfl
      have c1 := HX.out.at 1 (.int .i64 f) rfl
      have c2 := HX.out.at 2 (.slice A cs.length ca) rfl
      have c3 := HX.out.at 3 (.slice B ds.length cb) rfl
      have p0 := HP.out.at 0 (.int .i64 m) rfl
      have p1 := HP.out.at 1 (.int .u8 s) rfl
      have p2 := HP.out.at 2 (.int .i64 nd) rfl
      have a0 := HA.out.at 0 (.int .i64 cpu) rfl
      have a1 := HA.out.at 1 (.int .i64 cur) rfl
      have a2 := HA.out.at 2 (.slice M lm cm) rfl
      refine hK.out _ _ ⟨HX.out.at 0 (.int .i64 n) rfl, HX.out.at 1 (.int .i64 f) rfl, HX.out.at 2 (.slice A cs.length ca) rfl, HX.out.at 3 (.slice B ds.length cb) rfl, HP.out.at 0 (.int .i64 m) rfl, HP.out.at 1 (.int .u8 s) rfl, HP.out.at 2 (.int .i64 nd) rfl, HA.out.at 0 (.int .i64 cpu) rfl, HA.out.at 1 (.int .i64 cur) rfl⟩ (fun hHeld => ?_)
      clear hK K
      refine norm_ (a' := ?_) ?_ ?_
      rotate_left
      · show Act.put _ (some 25) _ = _
        simp only [Act.put, List.setIfInBounds_toArray, List.set_cons_zero, List.set_cons_succ, i64_w, i32_w]
        rfl
      refine two_ (i := 3) (j := 13) (Ni := some 27) (Nj := some 8) #[true, true, true, true, true, true, true, true, true, false, false, false, false, false, false, false] #[true, true, true, false, true, true, true, true, true, false, false, false, false, true, false, false] rfl rfl rfl rfl (by kernel_rfl) (by decide) (by decide) (fun K hK => ?_) (fun K hK => ?_)
      · skip
        refine goes_ Try.func23 (by kernel_rfl) rfl #[.agg #[.int .i64 m, .int .u8 s, .int .i64 nd]] (by rfl) rfl rfl (by simp only [List.map_toArray, List.map_cons, List.map_nil]; rfl) ?_
        with_reducible refine (messuagelaw11_rule.calls m s nd m s nd _ rfl).mono ?_
        rintro e_ wb ⟨rfl, hb⟩
        refine ⟨_, rfl, ?_⟩
        have n0_ := Aside0.mk (below_then HB.out HB.out.size hb)
        have n1_ := Aside0.mk (HX.out.below hb)
        have n2_ := Aside0.mk (HP.out.below hb)
        have n3_ := Aside0.mk (HA.out.below hb)
        have n4_ := Aside0.mk (Kd.C_below HM.out hb)
        have n5_ := Aside0.mk (below_then HD.out HD.out.size hb)
        clear HB HX HP HA HM HD c0 c1 c2 c3 p0 p1 p2 a0 a1 a2 hb
        have HB := n0_
        have HX := n1_
        have HP := n2_
        have HA := n3_
        have HM := n4_
        have HD := n5_
        clear n0_ n1_ n2_ n3_ n4_ n5_
        have c0 := HX.out.at 0 (.int .i64 n) rfl
        have c1 := HX.out.at 1 (.int .i64 f) rfl
        have c2 := HX.out.at 2 (.slice A cs.length ca) rfl
        have c3 := HX.out.at 3 (.slice B ds.length cb) rfl
        have p0 := HP.out.at 0 (.int .i64 m) rfl
        have p1 := HP.out.at 1 (.int .u8 s) rfl
        have p2 := HP.out.at 2 (.int .i64 nd) rfl
        have a0 := HA.out.at 0 (.int .i64 cpu) rfl
        have a1 := HA.out.at 1 (.int .i64 cur) rfl
        have a2 := HA.out.at 2 (.slice M lm cm) rfl
        refine hK.out _ _ ⟨HX.out.at 0 (.int .i64 n) rfl, HX.out.at 1 (.int .i64 f) rfl, HX.out.at 2 (.slice A cs.length ca) rfl, HX.out.at 3 (.slice B ds.length cb) rfl, HP.out.at 0 (.int .i64 m) rfl, HP.out.at 1 (.int .u8 s) rfl, HP.out.at 2 (.int .i64 nd) rfl, HA.out.at 0 (.int .i64 cpu) rfl, HA.out.at 1 (.int .i64 cur) rfl⟩ (fun hHeld => ?_)
        clear hK K
        refine norm_ (a' := ?_) ?_ ?_
        rotate_left
        · show Act.put _ (some 27) _ = _
          simp only [Act.put, List.setIfInBounds_toArray, List.set_cons_zero, List.set_cons_succ, i64_w, i32_w]
          rfl
        refine two_ (i := 9) (j := 13) (Ni := some 33) (Nj := some 8) #[true, true, true, true, true, true, true, true, true, true, false, false, false, false, false, false] #[true, true, true, true, true, true, true, true, true, false, false, false, false, true, false, false] rfl rfl rfl rfl (by kernel_rfl) (by decide) (by decide) (fun K hK => ?_) (fun K hK => ?_)
        · skip
          refine goes_ Try.func21 (by kernel_rfl) rfl #[.agg #[.int .i64 n, .int .i64 f, .slice A cs.length ca, .slice B ds.length cb], .agg #[.int .i64 m, .int .u8 s, .int .i64 nd], .int .i64 cpu, .int .i64 cur, .slice A7 lq c7] (by rfl) rfl rfl (by simp only [List.map_toArray, List.map_cons, List.map_nil]; rfl) ?_
          with_reducible refine (HN0.out _ _ _ HB.out HM.out).mono ?_
          rintro e_ wc ⟨rfl, hb⟩
          refine ⟨_, rfl, ?_⟩
          have n0_ := Aside0.mk (below_then HB.out HB.out.size hb)
          have n1_ := Aside0.mk (HX.out.below hb)
          have n2_ := Aside0.mk (HP.out.below hb)
          have n3_ := Aside0.mk (HA.out.below hb)
          have n4_ := Aside0.mk (Kd.C_below HM.out hb)
          have n5_ := Aside0.mk (below_then HD.out HD.out.size hb)
          clear HB HX HP HA HM HD c0 c1 c2 c3 p0 p1 p2 a0 a1 a2 hb
          have HB := n0_
          have HX := n1_
          have HP := n2_
          have HA := n3_
          have HM := n4_
          have HD := n5_
          clear n0_ n1_ n2_ n3_ n4_ n5_
          have c0 := HX.out.at 0 (.int .i64 n) rfl
          have c1 := HX.out.at 1 (.int .i64 f) rfl
          have c2 := HX.out.at 2 (.slice A cs.length ca) rfl
          have c3 := HX.out.at 3 (.slice B ds.length cb) rfl
          have p0 := HP.out.at 0 (.int .i64 m) rfl
          have p1 := HP.out.at 1 (.int .u8 s) rfl
          have p2 := HP.out.at 2 (.int .i64 nd) rfl
          have a0 := HA.out.at 0 (.int .i64 cpu) rfl
          have a1 := HA.out.at 1 (.int .i64 cur) rfl
          have a2 := HA.out.at 2 (.slice M lm cm) rfl
          refine hK.out _ _ ⟨HX.out.at 0 (.int .i64 n) rfl, HX.out.at 1 (.int .i64 f) rfl, HX.out.at 2 (.slice A cs.length ca) rfl, HX.out.at 3 (.slice B ds.length cb) rfl, HP.out.at 0 (.int .i64 m) rfl, HP.out.at 1 (.int .u8 s) rfl, HP.out.at 2 (.int .i64 nd) rfl, HA.out.at 0 (.int .i64 cpu) rfl, HA.out.at 1 (.int .i64 cur) rfl⟩ (fun hHeld => ?_)
          clear hK K
          refine norm_ (a' := ?_) ?_ ?_
          rotate_left
          · show Act.put _ (some 33) _ = _
            simp only [Act.put, List.setIfInBounds_toArray, List.set_cons_zero, List.set_cons_succ, i64_w, i32_w]
            rfl
          refine pure_ (i := 10) (N := some 23) (v := ?_) (a' := ?_) #[true, true, true, true, true, true, true, true, true, true, true, false, false, false, false, false] rfl rfl (by kernel_rfl) (fun _ _ _ h => h) (Or.inl ⟨by rfl, ?_⟩) ?_ ?_
          rotate_left
          · intro w'
            go_simp
            with_reducible rfl
          rotate_left
          · simp only [Act.put, List.setIfInBounds_toArray, List.set_cons_zero, List.set_cons_succ, i64_w, i32_w]
            rfl
          refine pure_ (i := 11) (N := some 34) (v := ?_) (a' := ?_) #[true, true, true, true, true, true, true, true, true, true, true, true, false, false, false, false] rfl rfl (by kernel_rfl) (fun _ _ _ h => h) (Or.inl ⟨by rfl, ?_⟩) ?_ ?_
          rotate_left
          · intro w'
            go_simp
            with_reducible rfl
          rotate_left
          · simp only [Act.put, List.setIfInBounds_toArray, List.set_cons_zero, List.set_cons_succ, i64_w, i32_w]
            rfl
          refine pure_ (i := 12) (N := some 35) (v := ?_) (a' := ?_) #[true, true, true, true, true, true, true, true, true, true, true, true, true, false, false, false] rfl rfl (by kernel_rfl) (fun _ _ _ h => h) (Or.inl ⟨by rfl, ?_⟩) ?_ ?_
          rotate_left
          · intro w'
            go_simp
            with_reducible rfl
          rotate_left
          · simp only [Act.put, List.setIfInBounds_toArray, List.set_cons_zero, List.set_cons_succ, i64_w, i32_w]
            rfl
          refine one_ (i := 13) (N := some 8) #[true, true, true, true, true, true, true, true, true, true, true, true, true, true, false, false] rfl rfl (by kernel_rfl) (by decide) (fun K hK => ?_)
          refine value_ (w1 := ?_) (v := ?_) (by rfl) rfl ?_ ?_
          rotate_left 2
          · go_simp
            constructor
            · rfl
            · rfl
          have hb := below_alloc (RowKit.Below.refl wc.heap.size wc) (.cells #[.int .i64 0, .int .i64 0, .int .i64 0] 53)
          have HT := Aside0.mk (Blk.new wc #[.int .i64 0, .int .i64 0, .int .i64 0] 53)
          have HSZ := Aside0.mk HD.out.size
          have n0_ := Aside0.mk (below_then HB.out HB.out.size hb)
          have n1_ := Aside0.mk (HX.out.below hb)
          have n2_ := Aside0.mk (HP.out.below hb)
          have n3_ := Aside0.mk (HA.out.below hb)
          have n4_ := Aside0.mk (Kd.C_below HM.out hb)
          have n5_ := Aside0.mk (below_then HD.out HD.out.size hb)
          clear HB HX HP HA HM HD c0 c1 c2 c3 p0 p1 p2 a0 a1 a2 hb
          have HB := n0_
          have HX := n1_
          have HP := n2_
          have HA := n3_
          have HM := n4_
          have HD := n5_
          clear n0_ n1_ n2_ n3_ n4_ n5_
          have c0 := HX.out.at 0 (.int .i64 n) rfl
          have c1 := HX.out.at 1 (.int .i64 f) rfl
          have c2 := HX.out.at 2 (.slice A cs.length ca) rfl
          have c3 := HX.out.at 3 (.slice B ds.length cb) rfl
          have p0 := HP.out.at 0 (.int .i64 m) rfl
          have p1 := HP.out.at 1 (.int .u8 s) rfl
          have p2 := HP.out.at 2 (.int .i64 nd) rfl
          have a0 := HA.out.at 0 (.int .i64 cpu) rfl
          have a1 := HA.out.at 1 (.int .i64 cur) rfl
          have a2 := HA.out.at 2 (.slice M lm cm) rfl
          refine hK.out _ _ ⟨HX.out.at 0 (.int .i64 n) rfl, HX.out.at 1 (.int .i64 f) rfl, HX.out.at 2 (.slice A cs.length ca) rfl, HX.out.at 3 (.slice B ds.length cb) rfl, HP.out.at 0 (.int .i64 m) rfl, HP.out.at 1 (.int .u8 s) rfl, HP.out.at 2 (.int .i64 nd) rfl, HA.out.at 0 (.int .i64 cpu) rfl, HA.out.at 1 (.int .i64 cur) rfl⟩ (fun hHeld => ?_)
          clear hK K
          refine norm_ (a' := ?_) ?_ ?_
          rotate_left
          · show Act.put _ (some 8) _ = _
            simp only [Act.put, List.setIfInBounds_toArray, List.set_cons_zero, List.set_cons_succ, i64_w, i32_w]
            rfl
          exact norm_ (by simp only [putAll, Act.put, List.setIfInBounds_toArray, List.set_cons_zero, List.set_cons_succ]) (hCont wc.heap.size _ ⟨HT.out, HSZ.out, HD.out⟩)
        · skip
          refine value_ (w1 := ?_) (v := ?_) (by rfl) rfl ?_ ?_
          rotate_left 2
          · go_simp
            constructor
            · rfl
            · rfl
          have hb := below_alloc (RowKit.Below.refl wb.heap.size wb) (.cells #[.int .i64 0, .int .i64 0, .int .i64 0] 53)
          have HT := Aside0.mk (Blk.new wb #[.int .i64 0, .int .i64 0, .int .i64 0] 53)
          have HSZ := Aside0.mk HD.out.size
          have n0_ := Aside0.mk (below_then HB.out HB.out.size hb)
          have n1_ := Aside0.mk (HX.out.below hb)
          have n2_ := Aside0.mk (HP.out.below hb)
          have n3_ := Aside0.mk (HA.out.below hb)
          have n4_ := Aside0.mk (Kd.C_below HM.out hb)
          have n5_ := Aside0.mk (below_then HD.out HD.out.size hb)
          clear HB HX HP HA HM HD c0 c1 c2 c3 p0 p1 p2 a0 a1 a2 hb
          have HB := n0_
          have HX := n1_
          have HP := n2_
          have HA := n3_
          have HM := n4_
          have HD := n5_
          clear n0_ n1_ n2_ n3_ n4_ n5_
          have c0 := HX.out.at 0 (.int .i64 n) rfl
          have c1 := HX.out.at 1 (.int .i64 f) rfl
          have c2 := HX.out.at 2 (.slice A cs.length ca) rfl
          have c3 := HX.out.at 3 (.slice B ds.length cb) rfl
          have p0 := HP.out.at 0 (.int .i64 m) rfl
          have p1 := HP.out.at 1 (.int .u8 s) rfl
          have p2 := HP.out.at 2 (.int .i64 nd) rfl
          have a0 := HA.out.at 0 (.int .i64 cpu) rfl
          have a1 := HA.out.at 1 (.int .i64 cur) rfl
          have a2 := HA.out.at 2 (.slice M lm cm) rfl
          refine hK.out _ _ ⟨HX.out.at 0 (.int .i64 n) rfl, HX.out.at 1 (.int .i64 f) rfl, HX.out.at 2 (.slice A cs.length ca) rfl, HX.out.at 3 (.slice B ds.length cb) rfl, HP.out.at 0 (.int .i64 m) rfl, HP.out.at 1 (.int .u8 s) rfl, HP.out.at 2 (.int .i64 nd) rfl, HA.out.at 0 (.int .i64 cpu) rfl, HA.out.at 1 (.int .i64 cur) rfl⟩ (fun hHeld => ?_)
          clear hK K
          refine norm_ (a' := ?_) ?_ ?_
          rotate_left
          · show Act.put _ (some 8) _ = _
            simp only [Act.put, List.setIfInBounds_toArray, List.set_cons_zero, List.set_cons_succ, i64_w, i32_w]
            rfl
          refine one_ (i := 9) (N := some 33) #[true, true, true, true, true, true, true, true, true, true, false, false, false, true, false, false] rfl rfl (by kernel_rfl) (by decide) (fun K hK => ?_)
          refine goes_ Try.func21 (by kernel_rfl) rfl #[.agg #[.int .i64 n, .int .i64 f, .slice A cs.length ca, .slice B ds.length cb], .agg #[.int .i64 m, .int .u8 s, .int .i64 nd], .int .i64 cpu, .int .i64 cur, .slice A7 lq c7] (by rfl) rfl rfl (by simp only [List.map_toArray, List.map_cons, List.map_nil]; rfl) ?_
          with_reducible refine (HN0.out _ _ _ HB.out HM.out).mono ?_
          rintro e_ wc ⟨rfl, hb⟩
          refine ⟨_, rfl, ?_⟩
          have n0_ := Aside0.mk (below_then HB.out HB.out.size hb)
          have n1_ := Aside0.mk (HX.out.below hb)
          have n2_ := Aside0.mk (HP.out.below hb)
          have n3_ := Aside0.mk (HA.out.below hb)
          have n4_ := Aside0.mk (Kd.C_below HM.out hb)
          have n5_ := Aside0.mk (below_then HD.out HD.out.size hb)
          have n6_ := Aside0.mk (HT.out.below hb)
          clear HB HX HP HA HM HD HT c0 c1 c2 c3 p0 p1 p2 a0 a1 a2 hb
          have HB := n0_
          have HX := n1_
          have HP := n2_
          have HA := n3_
          have HM := n4_
          have HD := n5_
          have HT := n6_
          clear n0_ n1_ n2_ n3_ n4_ n5_ n6_
          have c0 := HX.out.at 0 (.int .i64 n) rfl
          have c1 := HX.out.at 1 (.int .i64 f) rfl
          have c2 := HX.out.at 2 (.slice A cs.length ca) rfl
          have c3 := HX.out.at 3 (.slice B ds.length cb) rfl
          have p0 := HP.out.at 0 (.int .i64 m) rfl
          have p1 := HP.out.at 1 (.int .u8 s) rfl
          have p2 := HP.out.at 2 (.int .i64 nd) rfl
          have a0 := HA.out.at 0 (.int .i64 cpu) rfl
          have a1 := HA.out.at 1 (.int .i64 cur) rfl
          have a2 := HA.out.at 2 (.slice M lm cm) rfl
          refine hK.out _ _ ⟨HX.out.at 0 (.int .i64 n) rfl, HX.out.at 1 (.int .i64 f) rfl, HX.out.at 2 (.slice A cs.length ca) rfl, HX.out.at 3 (.slice B ds.length cb) rfl, HP.out.at 0 (.int .i64 m) rfl, HP.out.at 1 (.int .u8 s) rfl, HP.out.at 2 (.int .i64 nd) rfl, HA.out.at 0 (.int .i64 cpu) rfl, HA.out.at 1 (.int .i64 cur) rfl⟩ (fun hHeld => ?_)
          clear hK K
          refine norm_ (a' := ?_) ?_ ?_
          rotate_left
          · show Act.put _ (some 33) _ = _
            simp only [Act.put, List.setIfInBounds_toArray, List.set_cons_zero, List.set_cons_succ, i64_w, i32_w]
            rfl
          refine pure_ (i := 10) (N := some 23) (v := ?_) (a' := ?_) #[true, true, true, true, true, true, true, true, true, true, true, false, false, true, false, false] rfl rfl (by kernel_rfl) (fun _ _ _ h => h) (Or.inl ⟨by rfl, ?_⟩) ?_ ?_
          rotate_left
          · intro w'
            go_simp
            with_reducible rfl
          rotate_left
          · simp only [Act.put, List.setIfInBounds_toArray, List.set_cons_zero, List.set_cons_succ, i64_w, i32_w]
            rfl
          refine pure_ (i := 11) (N := some 34) (v := ?_) (a' := ?_) #[true, true, true, true, true, true, true, true, true, true, true, true, false, true, false, false] rfl rfl (by kernel_rfl) (fun _ _ _ h => h) (Or.inl ⟨by rfl, ?_⟩) ?_ ?_
          rotate_left
          · intro w'
            go_simp
            with_reducible rfl
          rotate_left
          · simp only [Act.put, List.setIfInBounds_toArray, List.set_cons_zero, List.set_cons_succ, i64_w, i32_w]
            rfl
          refine pure_ (i := 12) (N := some 35) (v := ?_) (a' := ?_) #[true, true, true, true, true, true, true, true, true, true, true, true, true, true, false, false] rfl rfl (by kernel_rfl) (fun _ _ _ h => h) (Or.inl ⟨by rfl, ?_⟩) ?_ ?_
          rotate_left
          · intro w'
            go_simp
            with_reducible rfl
          rotate_left
          · simp only [Act.put, List.setIfInBounds_toArray, List.set_cons_zero, List.set_cons_succ, i64_w, i32_w]
            rfl
          exact norm_ (by simp only [putAll, Act.put, List.setIfInBounds_toArray, List.set_cons_zero, List.set_cons_succ]) (hCont wb.heap.size _ ⟨HT.out, HSZ.out, HD.out⟩)
      · skip
        refine value_ (w1 := ?_) (v := ?_) (by rfl) rfl ?_ ?_
        rotate_left 2
        · go_simp
          constructor
          · rfl
          · rfl
        have hb := below_alloc (RowKit.Below.refl wa.heap.size wa) (.cells #[.int .i64 0, .int .i64 0, .int .i64 0] 53)
        have HT := Aside0.mk (Blk.new wa #[.int .i64 0, .int .i64 0, .int .i64 0] 53)
        have HSZ := Aside0.mk HD.out.size
        have n0_ := Aside0.mk (below_then HB.out HB.out.size hb)
        have n1_ := Aside0.mk (HX.out.below hb)
        have n2_ := Aside0.mk (HP.out.below hb)
        have n3_ := Aside0.mk (HA.out.below hb)
        have n4_ := Aside0.mk (Kd.C_below HM.out hb)
        have n5_ := Aside0.mk (below_then HD.out HD.out.size hb)
        clear HB HX HP HA HM HD c0 c1 c2 c3 p0 p1 p2 a0 a1 a2 hb
        have HB := n0_
        have HX := n1_
        have HP := n2_
        have HA := n3_
        have HM := n4_
        have HD := n5_
        clear n0_ n1_ n2_ n3_ n4_ n5_
        have c0 := HX.out.at 0 (.int .i64 n) rfl
        have c1 := HX.out.at 1 (.int .i64 f) rfl
        have c2 := HX.out.at 2 (.slice A cs.length ca) rfl
        have c3 := HX.out.at 3 (.slice B ds.length cb) rfl
        have p0 := HP.out.at 0 (.int .i64 m) rfl
        have p1 := HP.out.at 1 (.int .u8 s) rfl
        have p2 := HP.out.at 2 (.int .i64 nd) rfl
        have a0 := HA.out.at 0 (.int .i64 cpu) rfl
        have a1 := HA.out.at 1 (.int .i64 cur) rfl
        have a2 := HA.out.at 2 (.slice M lm cm) rfl
        refine hK.out _ _ ⟨HX.out.at 0 (.int .i64 n) rfl, HX.out.at 1 (.int .i64 f) rfl, HX.out.at 2 (.slice A cs.length ca) rfl, HX.out.at 3 (.slice B ds.length cb) rfl, HP.out.at 0 (.int .i64 m) rfl, HP.out.at 1 (.int .u8 s) rfl, HP.out.at 2 (.int .i64 nd) rfl, HA.out.at 0 (.int .i64 cpu) rfl, HA.out.at 1 (.int .i64 cur) rfl⟩ (fun hHeld => ?_)
        clear hK K
        refine norm_ (a' := ?_) ?_ ?_
        rotate_left
        · show Act.put _ (some 8) _ = _
          simp only [Act.put, List.setIfInBounds_toArray, List.set_cons_zero, List.set_cons_succ, i64_w, i32_w]
          rfl
        refine one_ (i := 3) (N := some 27) #[true, true, true, true, true, true, true, true, true, false, false, false, false, true, false, false] rfl rfl (by kernel_rfl) (by decide) (fun K hK => ?_)
        refine goes_ Try.func23 (by kernel_rfl) rfl #[.agg #[.int .i64 m, .int .u8 s, .int .i64 nd]] (by rfl) rfl rfl (by simp only [List.map_toArray, List.map_cons, List.map_nil]; rfl) ?_
        with_reducible refine (messuagelaw11_rule.calls m s nd m s nd _ rfl).mono ?_
        rintro e_ wb ⟨rfl, hb⟩
        refine ⟨_, rfl, ?_⟩
        have n0_ := Aside0.mk (below_then HB.out HB.out.size hb)
        have n1_ := Aside0.mk (HX.out.below hb)
        have n2_ := Aside0.mk (HP.out.below hb)
        have n3_ := Aside0.mk (HA.out.below hb)
        have n4_ := Aside0.mk (Kd.C_below HM.out hb)
        have n5_ := Aside0.mk (below_then HD.out HD.out.size hb)
        have n6_ := Aside0.mk (HT.out.below hb)
        clear HB HX HP HA HM HD HT c0 c1 c2 c3 p0 p1 p2 a0 a1 a2 hb
        have HB := n0_
        have HX := n1_
        have HP := n2_
        have HA := n3_
        have HM := n4_
        have HD := n5_
        have HT := n6_
        clear n0_ n1_ n2_ n3_ n4_ n5_ n6_
        have c0 := HX.out.at 0 (.int .i64 n) rfl
        have c1 := HX.out.at 1 (.int .i64 f) rfl
        have c2 := HX.out.at 2 (.slice A cs.length ca) rfl
        have c3 := HX.out.at 3 (.slice B ds.length cb) rfl
        have p0 := HP.out.at 0 (.int .i64 m) rfl
        have p1 := HP.out.at 1 (.int .u8 s) rfl
        have p2 := HP.out.at 2 (.int .i64 nd) rfl
        have a0 := HA.out.at 0 (.int .i64 cpu) rfl
        have a1 := HA.out.at 1 (.int .i64 cur) rfl
        have a2 := HA.out.at 2 (.slice M lm cm) rfl
        refine hK.out _ _ ⟨HX.out.at 0 (.int .i64 n) rfl, HX.out.at 1 (.int .i64 f) rfl, HX.out.at 2 (.slice A cs.length ca) rfl, HX.out.at 3 (.slice B ds.length cb) rfl, HP.out.at 0 (.int .i64 m) rfl, HP.out.at 1 (.int .u8 s) rfl, HP.out.at 2 (.int .i64 nd) rfl, HA.out.at 0 (.int .i64 cpu) rfl, HA.out.at 1 (.int .i64 cur) rfl⟩ (fun hHeld => ?_)
        clear hK K
        refine norm_ (a' := ?_) ?_ ?_
        rotate_left
        · show Act.put _ (some 27) _ = _
          simp only [Act.put, List.setIfInBounds_toArray, List.set_cons_zero, List.set_cons_succ, i64_w, i32_w]
          rfl
        refine one_ (i := 9) (N := some 33) #[true, true, true, true, true, true, true, true, true, true, false, false, false, true, false, false] rfl rfl (by kernel_rfl) (by decide) (fun K hK => ?_)
        refine goes_ Try.func21 (by kernel_rfl) rfl #[.agg #[.int .i64 n, .int .i64 f, .slice A cs.length ca, .slice B ds.length cb], .agg #[.int .i64 m, .int .u8 s, .int .i64 nd], .int .i64 cpu, .int .i64 cur, .slice A7 lq c7] (by rfl) rfl rfl (by simp only [List.map_toArray, List.map_cons, List.map_nil]; rfl) ?_
        with_reducible refine (HN0.out _ _ _ HB.out HM.out).mono ?_
        rintro e_ wc ⟨rfl, hb⟩
        refine ⟨_, rfl, ?_⟩
        have n0_ := Aside0.mk (below_then HB.out HB.out.size hb)
        have n1_ := Aside0.mk (HX.out.below hb)
        have n2_ := Aside0.mk (HP.out.below hb)
        have n3_ := Aside0.mk (HA.out.below hb)
        have n4_ := Aside0.mk (Kd.C_below HM.out hb)
        have n5_ := Aside0.mk (below_then HD.out HD.out.size hb)
        have n6_ := Aside0.mk (HT.out.below hb)
        clear HB HX HP HA HM HD HT c0 c1 c2 c3 p0 p1 p2 a0 a1 a2 hb
        have HB := n0_
        have HX := n1_
        have HP := n2_
        have HA := n3_
        have HM := n4_
        have HD := n5_
        have HT := n6_
        clear n0_ n1_ n2_ n3_ n4_ n5_ n6_
        have c0 := HX.out.at 0 (.int .i64 n) rfl
        have c1 := HX.out.at 1 (.int .i64 f) rfl
        have c2 := HX.out.at 2 (.slice A cs.length ca) rfl
        have c3 := HX.out.at 3 (.slice B ds.length cb) rfl
        have p0 := HP.out.at 0 (.int .i64 m) rfl
        have p1 := HP.out.at 1 (.int .u8 s) rfl
        have p2 := HP.out.at 2 (.int .i64 nd) rfl
        have a0 := HA.out.at 0 (.int .i64 cpu) rfl
        have a1 := HA.out.at 1 (.int .i64 cur) rfl
        have a2 := HA.out.at 2 (.slice M lm cm) rfl
        refine hK.out _ _ ⟨HX.out.at 0 (.int .i64 n) rfl, HX.out.at 1 (.int .i64 f) rfl, HX.out.at 2 (.slice A cs.length ca) rfl, HX.out.at 3 (.slice B ds.length cb) rfl, HP.out.at 0 (.int .i64 m) rfl, HP.out.at 1 (.int .u8 s) rfl, HP.out.at 2 (.int .i64 nd) rfl, HA.out.at 0 (.int .i64 cpu) rfl, HA.out.at 1 (.int .i64 cur) rfl⟩ (fun hHeld => ?_)
        clear hK K
        refine norm_ (a' := ?_) ?_ ?_
        rotate_left
        · show Act.put _ (some 33) _ = _
          simp only [Act.put, List.setIfInBounds_toArray, List.set_cons_zero, List.set_cons_succ, i64_w, i32_w]
          rfl
        refine pure_ (i := 10) (N := some 23) (v := ?_) (a' := ?_) #[true, true, true, true, true, true, true, true, true, true, true, false, false, true, false, false] rfl rfl (by kernel_rfl) (fun _ _ _ h => h) (Or.inl ⟨by rfl, ?_⟩) ?_ ?_
        rotate_left
        · intro w'
          go_simp
          with_reducible rfl
        rotate_left
        · simp only [Act.put, List.setIfInBounds_toArray, List.set_cons_zero, List.set_cons_succ, i64_w, i32_w]
          rfl
        refine pure_ (i := 11) (N := some 34) (v := ?_) (a' := ?_) #[true, true, true, true, true, true, true, true, true, true, true, true, false, true, false, false] rfl rfl (by kernel_rfl) (fun _ _ _ h => h) (Or.inl ⟨by rfl, ?_⟩) ?_ ?_
        rotate_left
        · intro w'
          go_simp
          with_reducible rfl
        rotate_left
        · simp only [Act.put, List.setIfInBounds_toArray, List.set_cons_zero, List.set_cons_succ, i64_w, i32_w]
          rfl
        refine pure_ (i := 12) (N := some 35) (v := ?_) (a' := ?_) #[true, true, true, true, true, true, true, true, true, true, true, true, true, true, false, false] rfl rfl (by kernel_rfl) (fun _ _ _ h => h) (Or.inl ⟨by rfl, ?_⟩) ?_ ?_
        rotate_left
        · intro w'
          go_simp
          with_reducible rfl
        rotate_left
        · simp only [Act.put, List.setIfInBounds_toArray, List.set_cons_zero, List.set_cons_succ, i64_w, i32_w]
          rfl
        exact norm_ (by simp only [putAll, Act.put, List.setIfInBounds_toArray, List.set_cons_zero, List.set_cons_succ]) (hCont wa.heap.size _ ⟨HT.out, HSZ.out, HD.out⟩)
    · skip
      refine value_ (w1 := ?_) (v := ?_) (by rfl) rfl ?_ ?_
      rotate_left 2
      · go_simp
        constructor
        · rfl
        · rfl
      have hb := below_alloc (RowKit.Below.refl wd.heap.size wd) (.cells #[.int .i64 0, .int .i64 0, .int .i64 0] 53)
      have HT := Aside0.mk (Blk.new wd #[.int .i64 0, .int .i64 0, .int .i64 0] 53)
      have HSZ := Aside0.mk HD.out.size
      have n0_ := Aside0.mk (below_then HB.out HB.out.size hb)
      have n1_ := Aside0.mk (HX.out.below hb)
      have n2_ := Aside0.mk (HP.out.below hb)
      have n3_ := Aside0.mk (HA.out.below hb)
      have n4_ := Aside0.mk (Kd.C_below HM.out hb)
      have n5_ := Aside0.mk (below_then HD.out HD.out.size hb)
      clear HB HX HP HA HM HD c0 c1 c2 c3 p0 p1 p2 a0 a1 a2 hb
      have HB := n0_
      have HX := n1_
      have HP := n2_
      have HA := n3_
      have HM := n4_
      have HD := n5_
      clear n0_ n1_ n2_ n3_ n4_ n5_
      have c0 := HX.out.at 0 (.int .i64 n) rfl
      have c1 := HX.out.at 1 (.int .i64 f) rfl
      have c2 := HX.out.at 2 (.slice A cs.length ca) rfl
      have c3 := HX.out.at 3 (.slice B ds.length cb) rfl
      have p0 := HP.out.at 0 (.int .i64 m) rfl
      have p1 := HP.out.at 1 (.int .u8 s) rfl
      have p2 := HP.out.at 2 (.int .i64 nd) rfl
      have a0 := HA.out.at 0 (.int .i64 cpu) rfl
      have a1 := HA.out.at 1 (.int .i64 cur) rfl
      have a2 := HA.out.at 2 (.slice M lm cm) rfl
      refine hK.out _ _ ⟨HX.out.at 0 (.int .i64 n) rfl, HX.out.at 1 (.int .i64 f) rfl, HX.out.at 2 (.slice A cs.length ca) rfl, HX.out.at 3 (.slice B ds.length cb) rfl, HP.out.at 0 (.int .i64 m) rfl, HP.out.at 1 (.int .u8 s) rfl, HP.out.at 2 (.int .i64 nd) rfl, HA.out.at 0 (.int .i64 cpu) rfl, HA.out.at 1 (.int .i64 cur) rfl⟩ (fun hHeld => ?_)
      clear hK K
      refine norm_ (a' := ?_) ?_ ?_
      rotate_left
      · show Act.put _ (some 8) _ = _
        simp only [Act.put, List.setIfInBounds_toArray, List.set_cons_zero, List.set_cons_succ, i64_w, i32_w]
        rfl
      refine one_ (i := 1) (N := some 25) #[true, true, true, false, true, true, true, true, true, false, false, false, false, true, false, false] rfl rfl (by kernel_rfl) (by decide) (fun K hK => ?_)
      refine goes_ Try.func22 (by kernel_rfl) rfl #[.agg #[.int .i64 n, .int .i64 f, .slice A cs.length ca, .slice B ds.length cb]] (by rfl) rfl rfl (by simp only [List.map_toArray, List.map_cons, List.map_nil]; rfl) ?_
      with_reducible refine (machine_own n f A cs.length ca B ds.length cb _).mono ?_
      rintro e_ wa ⟨rfl, hb⟩
      refine ⟨_, rfl, ?_⟩
      have n0_ := Aside0.mk (below_then HB.out HB.out.size hb)
      have n1_ := Aside0.mk (HX.out.below hb)
      have n2_ := Aside0.mk (HP.out.below hb)
      have n3_ := Aside0.mk (HA.out.below hb)
      have n4_ := Aside0.mk (Kd.C_below HM.out hb)
      have n5_ := Aside0.mk (below_then HD.out HD.out.size hb)
      have n6_ := Aside0.mk (HT.out.below hb)
      clear HB HX HP HA HM HD HT c0 c1 c2 c3 p0 p1 p2 a0 a1 a2 hb
      have HB := n0_
      have HX := n1_
      have HP := n2_
      have HA := n3_
      have HM := n4_
      have HD := n5_
      have HT := n6_
      clear n0_ n1_ n2_ n3_ n4_ n5_ n6_
      have c0 := HX.out.at 0 (.int .i64 n) rfl
      have c1 := HX.out.at 1 (.int .i64 f) rfl
      have c2 := HX.out.at 2 (.slice A cs.length ca) rfl
      have c3 := HX.out.at 3 (.slice B ds.length cb) rfl
      have p0 := HP.out.at 0 (.int .i64 m) rfl
      have p1 := HP.out.at 1 (.int .u8 s) rfl
      have p2 := HP.out.at 2 (.int .i64 nd) rfl
      have a0 := HA.out.at 0 (.int .i64 cpu) rfl
      have a1 := HA.out.at 1 (.int .i64 cur) rfl
      have a2 := HA.out.at 2 (.slice M lm cm) rfl
      refine hK.out _ _ ⟨HX.out.at 0 (.int .i64 n) rfl, HX.out.at 1 (.int .i64 f) rfl, HX.out.at 2 (.slice A cs.length ca) rfl, HX.out.at 3 (.slice B ds.length cb) rfl, HP.out.at 0 (.int .i64 m) rfl, HP.out.at 1 (.int .u8 s) rfl, HP.out.at 2 (.int .i64 nd) rfl, HA.out.at 0 (.int .i64 cpu) rfl, HA.out.at 1 (.int .i64 cur) rfl⟩ (fun hHeld => ?_)
      clear hK K
      refine norm_ (a' := ?_) ?_ ?_
      rotate_left
      · show Act.put _ (some 25) _ = _
        simp only [Act.put, List.setIfInBounds_toArray, List.set_cons_zero, List.set_cons_succ, i64_w, i32_w]
        rfl
      refine one_ (i := 3) (N := some 27) #[true, true, true, true, true, true, true, true, true, false, false, false, false, true, false, false] rfl rfl (by kernel_rfl) (by decide) (fun K hK => ?_)
      refine goes_ Try.func23 (by kernel_rfl) rfl #[.agg #[.int .i64 m, .int .u8 s, .int .i64 nd]] (by rfl) rfl rfl (by simp only [List.map_toArray, List.map_cons, List.map_nil]; rfl) ?_
      with_reducible refine (messuagelaw11_rule.calls m s nd m s nd _ rfl).mono ?_
      rintro e_ wb ⟨rfl, hb⟩
      refine ⟨_, rfl, ?_⟩
      have n0_ := Aside0.mk (below_then HB.out HB.out.size hb)
      have n1_ := Aside0.mk (HX.out.below hb)
      have n2_ := Aside0.mk (HP.out.below hb)
      have n3_ := Aside0.mk (HA.out.below hb)
      have n4_ := Aside0.mk (Kd.C_below HM.out hb)
      have n5_ := Aside0.mk (below_then HD.out HD.out.size hb)
      have n6_ := Aside0.mk (HT.out.below hb)
      clear HB HX HP HA HM HD HT c0 c1 c2 c3 p0 p1 p2 a0 a1 a2 hb
      have HB := n0_
      have HX := n1_
      have HP := n2_
      have HA := n3_
      have HM := n4_
      have HD := n5_
      have HT := n6_
      clear n0_ n1_ n2_ n3_ n4_ n5_ n6_
      have c0 := HX.out.at 0 (.int .i64 n) rfl
      have c1 := HX.out.at 1 (.int .i64 f) rfl
      have c2 := HX.out.at 2 (.slice A cs.length ca) rfl
      have c3 := HX.out.at 3 (.slice B ds.length cb) rfl
      have p0 := HP.out.at 0 (.int .i64 m) rfl
      have p1 := HP.out.at 1 (.int .u8 s) rfl
      have p2 := HP.out.at 2 (.int .i64 nd) rfl
      have a0 := HA.out.at 0 (.int .i64 cpu) rfl
      have a1 := HA.out.at 1 (.int .i64 cur) rfl
      have a2 := HA.out.at 2 (.slice M lm cm) rfl
      refine hK.out _ _ ⟨HX.out.at 0 (.int .i64 n) rfl, HX.out.at 1 (.int .i64 f) rfl, HX.out.at 2 (.slice A cs.length ca) rfl, HX.out.at 3 (.slice B ds.length cb) rfl, HP.out.at 0 (.int .i64 m) rfl, HP.out.at 1 (.int .u8 s) rfl, HP.out.at 2 (.int .i64 nd) rfl, HA.out.at 0 (.int .i64 cpu) rfl, HA.out.at 1 (.int .i64 cur) rfl⟩ (fun hHeld => ?_)
      clear hK K
      refine norm_ (a' := ?_) ?_ ?_
      rotate_left
      · show Act.put _ (some 27) _ = _
        simp only [Act.put, List.setIfInBounds_toArray, List.set_cons_zero, List.set_cons_succ, i64_w, i32_w]
        rfl
      refine one_ (i := 9) (N := some 33) #[true, true, true, true, true, true, true, true, true, true, false, false, false, true, false, false] rfl rfl (by kernel_rfl) (by decide) (fun K hK => ?_)
      refine goes_ Try.func21 (by kernel_rfl) rfl #[.agg #[.int .i64 n, .int .i64 f, .slice A cs.length ca, .slice B ds.length cb], .agg #[.int .i64 m, .int .u8 s, .int .i64 nd], .int .i64 cpu, .int .i64 cur, .slice A7 lq c7] (by rfl) rfl rfl (by simp only [List.map_toArray, List.map_cons, List.map_nil]; rfl) ?_
      with_reducible refine (HN0.out _ _ _ HB.out HM.out).mono ?_
      rintro e_ wc ⟨rfl, hb⟩
      refine ⟨_, rfl, ?_⟩
      have n0_ := Aside0.mk (below_then HB.out HB.out.size hb)
      have n1_ := Aside0.mk (HX.out.below hb)
      have n2_ := Aside0.mk (HP.out.below hb)
      have n3_ := Aside0.mk (HA.out.below hb)
      have n4_ := Aside0.mk (Kd.C_below HM.out hb)
      have n5_ := Aside0.mk (below_then HD.out HD.out.size hb)
      have n6_ := Aside0.mk (HT.out.below hb)
      clear HB HX HP HA HM HD HT c0 c1 c2 c3 p0 p1 p2 a0 a1 a2 hb
      have HB := n0_
      have HX := n1_
      have HP := n2_
      have HA := n3_
      have HM := n4_
      have HD := n5_
      have HT := n6_
      clear n0_ n1_ n2_ n3_ n4_ n5_ n6_
      have c0 := HX.out.at 0 (.int .i64 n) rfl
      have c1 := HX.out.at 1 (.int .i64 f) rfl
      have c2 := HX.out.at 2 (.slice A cs.length ca) rfl
      have c3 := HX.out.at 3 (.slice B ds.length cb) rfl
      have p0 := HP.out.at 0 (.int .i64 m) rfl
      have p1 := HP.out.at 1 (.int .u8 s) rfl
      have p2 := HP.out.at 2 (.int .i64 nd) rfl
      have a0 := HA.out.at 0 (.int .i64 cpu) rfl
      have a1 := HA.out.at 1 (.int .i64 cur) rfl
      have a2 := HA.out.at 2 (.slice M lm cm) rfl
      refine hK.out _ _ ⟨HX.out.at 0 (.int .i64 n) rfl, HX.out.at 1 (.int .i64 f) rfl, HX.out.at 2 (.slice A cs.length ca) rfl, HX.out.at 3 (.slice B ds.length cb) rfl, HP.out.at 0 (.int .i64 m) rfl, HP.out.at 1 (.int .u8 s) rfl, HP.out.at 2 (.int .i64 nd) rfl, HA.out.at 0 (.int .i64 cpu) rfl, HA.out.at 1 (.int .i64 cur) rfl⟩ (fun hHeld => ?_)
      clear hK K
      refine norm_ (a' := ?_) ?_ ?_
      rotate_left
      · show Act.put _ (some 33) _ = _
        simp only [Act.put, List.setIfInBounds_toArray, List.set_cons_zero, List.set_cons_succ, i64_w, i32_w]
        rfl
      refine pure_ (i := 10) (N := some 23) (v := ?_) (a' := ?_) #[true, true, true, true, true, true, true, true, true, true, true, false, false, true, false, false] rfl rfl (by kernel_rfl) (fun _ _ _ h => h) (Or.inl ⟨by rfl, ?_⟩) ?_ ?_
      rotate_left
      · intro w'
        go_simp
        with_reducible rfl
      rotate_left
      · simp only [Act.put, List.setIfInBounds_toArray, List.set_cons_zero, List.set_cons_succ, i64_w, i32_w]
        rfl
      refine pure_ (i := 11) (N := some 34) (v := ?_) (a' := ?_) #[true, true, true, true, true, true, true, true, true, true, true, true, false, true, false, false] rfl rfl (by kernel_rfl) (fun _ _ _ h => h) (Or.inl ⟨by rfl, ?_⟩) ?_ ?_
      rotate_left
      · intro w'
        go_simp
        with_reducible rfl
      rotate_left
      · simp only [Act.put, List.setIfInBounds_toArray, List.set_cons_zero, List.set_cons_succ, i64_w, i32_w]
        rfl
      refine pure_ (i := 12) (N := some 35) (v := ?_) (a' := ?_) #[true, true, true, true, true, true, true, true, true, true, true, true, true, true, false, false] rfl rfl (by kernel_rfl) (fun _ _ _ h => h) (Or.inl ⟨by rfl, ?_⟩) ?_ ?_
      rotate_left
      · intro w'
        go_simp
        with_reducible rfl
      rotate_left
      · simp only [Act.put, List.setIfInBounds_toArray, List.set_cons_zero, List.set_cons_succ, i64_w, i32_w]
        rfl
      exact norm_ (by simp only [putAll, Act.put, List.setIfInBounds_toArray, List.set_cons_zero, List.set_cons_succ]) (hCont wd.heap.size _ ⟨HT.out, HSZ.out, HD.out⟩)
  rintro tb wj ⟨hT, hS, hD⟩
  have HT := Aside0.mk hT
  have HSB := Aside0.mk hS
  have HD2 := Aside0.mk hD
  clear hT hS hD
  have t0 := HT.out.at 0 (.int .i64 0) rfl
  have t1 := HT.out.at 1 (.int .i64 0) rfl
  have t2 := HT.out.at 2 (.int .i64 0) rfl
  have g0 := HT.out.fz 0
  have g1 := HT.out.fz 1
  have g2 := HT.out.fz 2
  have hHeld : wj.cell? ⟨w.heap.size, 0, none⟩ = some (.int .i64 n) ∧ wj.cell? ⟨w.heap.size, 1, none⟩ = some (.int .i64 f) ∧ wj.cell? ⟨w.heap.size, 2, none⟩ = some (.slice A cs.length ca) ∧ wj.cell? ⟨w.heap.size, 3, none⟩ = some (.slice B ds.length cb) ∧ wj.cell? ⟨w.heap.size + 1, 0, none⟩ = some (.int .i64 m) ∧ wj.cell? ⟨w.heap.size + 1, 1, none⟩ = some (.int .u8 s) ∧ wj.cell? ⟨w.heap.size + 1, 2, none⟩ = some (.int .i64 nd) ∧ wj.cell? ⟨w.heap.size + 1 + 1, 0, none⟩ = some (.int .i64 cpu) ∧ wj.cell? ⟨w.heap.size + 1 + 1, 1, none⟩ = some (.int .i64 cur) := ⟨(HX.out.below HD2.out).at 0 (.int .i64 n) rfl, (HX.out.below HD2.out).at 1 (.int .i64 f) rfl, (HX.out.below HD2.out).at 2 (.slice A cs.length ca) rfl, (HX.out.below HD2.out).at 3 (.slice B ds.length cb) rfl, (HP.out.below HD2.out).at 0 (.int .i64 m) rfl, (HP.out.below HD2.out).at 1 (.int .u8 s) rfl, (HP.out.below HD2.out).at 2 (.int .i64 nd) rfl, (HA.out.below HD2.out).at 0 (.int .i64 cpu) rfl, (HA.out.below HD2.out).at 1 (.int .i64 cur) rfl⟩
  refine norm_ (a' := ?_) ?_ ?_
  rotate_left
  · simp only [putAll, Act.put, List.setIfInBounds_toArray, List.set_cons_zero, List.set_cons_succ]
    rfl
  refine last_ (i := 14) (N := none) #[true, true, true, true, true, true, true, true, true, true, true, true, true, true, true, false] rfl rfl (by kernel_rfl) (by decide) (fun K hK => ?_)
  refine skip_ (w1 := ?_) (by rfl) rfl ?_ ?_
  rotate_left
  · go_simp
    rfl
  refine hK.out _ _ ?_
  clear hK K
  refine pure_ (i := 15) (N := some 9) (v := ?_) (a' := ?_) #[true, true, true, true, true, true, true, true, true, true, true, true, true, true, true, true] rfl rfl (by kernel_rfl) (fun _ _ _ h => h) (Or.inl ⟨by rfl, ?_⟩) ?_ ?_
  rotate_left
  · intro w'
    go_simp
    with_reducible rfl
  rotate_left
  · simp only [Act.put, List.setIfInBounds_toArray, List.set_cons_zero, List.set_cons_succ, i64_w, i32_w]
    rfl
  refine done_ (by kernel_rfl) ?_
  have hb_ := below_put3 HD2.out HSB.out (.int .i64 v0) (.int .i64 v1) (.int .i64 v2)
  have HT3 := Aside0.mk (HT.out.put3 (.int .i64 v0) (.int .i64 v1) (.int .i64 v2))
  clear HT t0 t1 t2 g0 g1 g2 hHeld
  have n0_ := Aside0.mk (below_then HB.out HB.out.size hb_)
  have n1_ := Aside0.mk (HX.out.below hb_)
  have n2_ := Aside0.mk (HP.out.below hb_)
  have n3_ := Aside0.mk (HA.out.below hb_)
  have n4_ := Aside0.mk (Kd.C_below HM.out hb_)
  clear HB HX HP HA HM c0 c1 c2 c3 p0 p1 p2 a0 a1 a2 hb_
  have HB := n0_
  have HX := n1_
  have HP := n2_
  have HA := n3_
  have HM := n4_
  clear n0_ n1_ n2_ n3_ n4_
  have c0 := HX.out.at 0 (.int .i64 n) rfl
  have c1 := HX.out.at 1 (.int .i64 f) rfl
  have c2 := HX.out.at 2 (.slice A cs.length ca) rfl
  have c3 := HX.out.at 3 (.slice B ds.length cb) rfl
  have p0 := HP.out.at 0 (.int .i64 m) rfl
  have p1 := HP.out.at 1 (.int .u8 s) rfl
  have p2 := HP.out.at 2 (.int .i64 nd) rfl
  have a0 := HA.out.at 0 (.int .i64 cpu) rfl
  have a1 := HA.out.at 1 (.int .i64 cur) rfl
  have a2 := HA.out.at 2 (.slice M lm cm) rfl
  clear HD2 HSB HD
  have HT := HT3
  clear HT3
  generalize ((wj.setCell ⟨tb, 0, none⟩ (.int .i64 v0)).setCell ⟨tb, 1, none⟩ (.int .i64 v1)).setCell ⟨tb, 2, none⟩ (.int .i64 v2) = wz at *
  go_upto_region 5 with (go_at_call 24; (with_reducible refine (HF0.out _ _ _ HB.out HM.out).mono ?_); rintro e_ w5 ⟨rfl, hb⟩; have n0_ := Aside0.mk (below_then HB.out HB.out.size hb); have n1_ := Aside0.mk (HX.out.below hb); have n2_ := Aside0.mk (HP.out.below hb); have n3_ := Aside0.mk (HA.out.below hb); have n4_ := Aside0.mk (Kd.C_below HM.out hb); have n5_ := Aside0.mk (HT.out.below hb); clear HB HX HP HA HM HT c0 c1 c2 c3 p0 p1 p2 a0 a1 a2 hb; have HB := n0_; have HX := n1_; have HP := n2_; have HA := n3_; have HM := n4_; have HT := n5_; clear n0_ n1_ n2_ n3_ n4_ n5_; have c0 := HX.out.at 0 (.int .i64 n) rfl; have c1 := HX.out.at 1 (.int .i64 f) rfl; have c2 := HX.out.at 2 (.slice A cs.length ca) rfl; have c3 := HX.out.at 3 (.slice B ds.length cb) rfl; have p0 := HP.out.at 0 (.int .i64 m) rfl; have p1 := HP.out.at 1 (.int .u8 s) rfl; have p2 := HP.out.at 2 (.int .i64 nd) rfl; have a0 := HA.out.at 0 (.int .i64 cpu) rfl; have a1 := HA.out.at 1 (.int .i64 cur) rfl; have a2 := HA.out.at 2 (.slice M lm cm) rfl)
  have n0_ := Aside0.mk (Blk.new w5 #[.int .i64 v0, .int .i64 v1, .int .i64 v2] 59)
  have n1_ := Aside0.mk (HT.out.alloc (.cells #[.int .i64 v0, .int .i64 v1, .int .i64 v2] 59))
  have n2_ := Aside0.mk (below_alloc HB.out (.cells #[.int .i64 v0, .int .i64 v1, .int .i64 v2] 59))
  clear HX HP HA HM HT HB c0 c1 c2 c3 p0 p1 p2 a0 a1 a2
  obtain ⟨tb2, htb⟩ : ∃ tb2, w5.heap.size = tb2 := ⟨_, rfl⟩
  rw [htb] at n0_ ⊢
  clear htb
  generalize w5.alloc (.cells #[.int .i64 v0, .int .i64 v1, .int .i64 v2] 59) = w6 at *
  have e1 : (er == er) = true := by simp
  have e2 : (v0 == v0) = true := by simp
  have e3 : (v1 == v1) = true := by simp
  have e4 : (v2 == v2) = true := by simp
  go_wp2_with (go_at_call 25; (with_reducible refine (chooses_own _).mono ?_); rintro e_ w7 ⟨rfl, hb⟩; have HB := Aside0.mk (below_then n2_.out n2_.out.size hb); have t0 := (n1_.out.below hb).at 0 (.int .i64 v0) rfl; have t1 := (n1_.out.below hb).at 1 (.int .i64 v1) rfl; have t2 := (n1_.out.below hb).at 2 (.int .i64 v2) rfl; have u0 := (n0_.out.below hb).at 0 (.int .i64 v0) rfl; have u1 := (n0_.out.below hb).at 1 (.int .i64 v1) rfl; have u2 := (n0_.out.below hb).at 2 (.int .i64 v2) rfl; clear n0_ n1_ n2_ hb)
  go_ret
  exact ⟨rfl, HB.out⟩
end Go.Proofs.Ytffmhpfdfcpniaa.T
