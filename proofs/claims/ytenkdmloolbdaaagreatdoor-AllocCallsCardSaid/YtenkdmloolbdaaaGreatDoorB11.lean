/- Buddies: Take and Free. The heap: a buddy for each node. -/
import Derived.Test.YtenkdmloolbdaaaGreatDoorB06
import Derived.Test.YtenkdmloolbdaaaGreatDoorB05
import Derived.Test.YtenkdmloolbdaaaGreatDoorB10
import Derived.Test.YtenkdmloolbdaaaGreatDoorB09
section
namespace Go.Proofs.YtenkdmloolbdaaaGreatDoor.T
open Go.RowKit Go.Maps Go.WideShapes Go.Proofs.YtenkdmloolbdaaaGreatDoorW.PrintWords Go.Proofs.YtenkdmloolbdaaaGreatDoorW.PrintLast Go.Proofs.YtenkdmloolbdaaaGreatDoorW.PrintMore
set_option linter.unusedVariables false
set_option linter.unusedSimpArgs false
theorem i64o (x : Int) (h0 : -9223372036854775808 ≤ x) (h1 : x ≤ 9223372036854775807) : I64 x := by
  have e1 : IntKind.i64.min = -9223372036854775808 := rfl
  have e2 : IntKind.i64.max = 9223372036854775807 := rfl
  simp [I64, Lit.wf, e1, e2]
  omega
theorem bud_at' (n : Nat) (m : Nat → Nat) (t k : Nat) (hk : k < 11) : (budCells n m t)[1 + k]? = some (.map (some (m k))) := by rw [Nat.add_comm]; exact bud_at n m t k hk
/-- A number put into the set of an order that has none. -/
theorem BuddyK.fill {κ : Kol} {i b n c : Nat} {w : World} {fr : Nat → List Nat} {tk : Int → Option Int} (h : BuddyK κ i w b n c fr tk) (k : Nat) (hk : k < 11) (x : Nat) (hx : I64 (x : Int)) (he : fr k = []) :
    ∃ mk w1, w.cell? ⟨b, 1 + k, none⟩ = some (.map (some mk)) ∧ (Instr.mapUpdate 196 (.map (some mk)) (.int .i64 x) (.bool true)).run Tryz.prog w = .ok () w1 ∧ BuddyK κ i w1 b n c (fun j => if j = k then [x] else fr j) tk ∧ Upd (· = i + 1 + k) κ w κ w1 := by
  obtain ⟨m, t, h1, h2, h3⟩ := h
  obtain ⟨hkol, D, hown, hsv⟩ := h2 k hk
  rw [he] at hown hsv
  obtain ⟨w1, hrun, hown1, hg⟩ := hown.update int_law Tryz.underlying196 (by simp [maxLen]) (keyOf_int_mk Tryz.underlying3 hx) (plainElem_bool Tryz.underlying4 true)
  have hU := Upd.of_grown hg hkol
  refine ⟨m k, w1, h1.blk.at (1 + k) _ (bud_at' n m t k hk), hrun, ⟨m, t, h1.upd hU (by omega), fun j hj => ?_, h3.upd hU (by omega)⟩, hU⟩
  by_cases e : j = k
  · subst e
    rw [if_pos rfl]
    exact ⟨hkol, _, hown1, hsv.put (hown.tidy int_law) x (by simp) hx (List.Perm.refl _)⟩
  · rw [if_neg e]
    exact (h2 j hj).upd hU (by omega)
/-- A number taken out of the set of an order. -/
theorem BuddyK.drop {κ : Kol} {i b n c : Nat} {w : World} {fr : Nat → List Nat} {tk : Int → Option Int} (h : BuddyK κ i w b n c fr tk) (k : Nat) (hk : k < 11) (x : Nat) (r : List Nat) (hx : I64 (x : Int)) (he : fr k = x :: r) (ty : TypeId) :
    ∃ mk w1, w.cell? ⟨b, 1 + k, none⟩ = some (.map (some mk)) ∧ (Builtin.delete_ #[196, 3] ty #[.map (some mk), .int .i64 x]).run Tryz.prog w = .ok (.tuple #[]) w1 ∧ BuddyK κ i w1 b n c (fun j => if j = k then r else fr j) tk ∧ Upd (· = i + 1 + k) κ w κ w1 := by
  obtain ⟨m, t, h1, h2, h3⟩ := h
  obtain ⟨hkol, D, hown, hsv⟩ := h2 k hk
  rw [he] at hown hsv
  obtain ⟨w1, hrun, hown1, hg⟩ := hown.drop int_law Tryz.underlying196 (keyOf_int_mk Tryz.underlying3 hx) ty
  have hU := Upd.of_turned hg hkol
  refine ⟨m k, w1, h1.blk.at (1 + k) _ (bud_at' n m t k hk), hrun, ⟨m, t, h1.upd hU (by omega), fun j hj => ?_, h3.upd hU (by omega)⟩, hU⟩
  by_cases e : j = k
  · subst e
    rw [if_pos rfl]
    have hd := hsv.del (hown.tidy int_law) x (by simp) hx
    rw [List.erase_cons_head] at hd
    have ht := own_tight hown1
    rw [hd.size] at ht
    exact ⟨hkol, _, ht, hd⟩
  · rw [if_neg e]
    exact (h2 j hj).upd hU (by omega)
/-- A run noted as taken. -/
theorem BuddyK.note {κ : Kol} {i b n c : Nat} {w : World} {fr : Nat → List Nat} {tk : Int → Option Int} (h : BuddyK κ i w b n c fr tk) (x o : Nat) (hx : I64 (x : Int)) (ho : I64 (o : Int)) (hc : c < 1000000) :
    ∃ t w1, w.cell? ⟨b, 12, none⟩ = some (.map (some t)) ∧ (Instr.mapUpdate 127 (.map (some t)) (.int .i64 x) (.int .i64 o)).run Tryz.prog w = .ok () w1 ∧ BuddyK κ i w1 b n (c + 1) fr (putF tk x o) ∧ Upd (· = i + 12) κ w κ w1 := by
  obtain ⟨m, t, h1, h2, hkol, D, hown, hsv⟩ := h
  obtain ⟨w1, hrun, hown1, hg⟩ := hown.update int_law Tryz.underlying127 (by simp only [maxLen]; omega) (keyOf_int_mk Tryz.underlying3 hx) (plainElem_int Tryz.underlying3 ho)
  have hU := Upd.of_grown hg hkol
  exact ⟨t, w1, h1.blk.at 12 _ rfl, hrun, ⟨m, t, h1.upd hU (by omega), fun j hj => (h2 j hj).upd hU (by omega), hkol, _, hown1, hsv.put (hown.tidy int_law).isMap x o⟩, hU⟩
/-- A buddy's runs in order. -/
structure BudOK (n : Nat) (fr : Nat → List Nat) : Prop where
  max : n ≤ 1024
  sorted : ∀ k, k < 11 → (fr k).Pairwise (· < ·)
  lt : ∀ k, k < 11 → ∀ x ∈ fr k, x + 2 ^ k ≤ n
  len : ∀ k, k < 11 → (fr k).length ≤ 1024
/-- The runs when the first one of order K has been halved down to order kk. -/
def frAt (fr : Nat → List Nat) (K at_ kk : Nat) : Nat → List Nat := fun j => if j = K then (fr K).tail else if kk ≤ j ∧ j < K then [at_ + 2 ^ j] else fr j
theorem frAt_start (fr : Nat → List Nat) (K x : Nat) (r : List Nat) (he : fr K = x :: r) : (fun j => if j = K then r else fr j) = frAt fr K x K := by
  funext j
  unfold frAt
  by_cases e : j = K
  · subst e; simp [he]
  · simp [e, show ¬ (K ≤ j ∧ j < K) by omega]
theorem frAt_step (fr : Nat → List Nat) (K x kk : Nat) (hk : kk < K) : (fun j => if j = kk then [x + 2 ^ kk] else frAt fr K x (kk + 1) j) = frAt fr K x kk := by
  funext j
  unfold frAt
  by_cases e : j = kk
  · subst e; simp [show j ≠ K by omega, hk]
  · by_cases e2 : j = K
    · subst e2; simp [e]
    · by_cases e3 : kk ≤ j ∧ j < K
      · simp [e, e2, e3, show kk + 1 ≤ j by omega]
      · simp [e, e2, e3, show ¬ (kk + 1 ≤ j ∧ j < K) by omega]
theorem above_is {fr : Nat → List Nat} {o K : Nat} {r : Option Nat} (hmin : ∀ j, o ≤ j → j < K → fr j = []) (hn : fr K ≠ []) (ho : o ≤ K) (hK : K < 11) (h : aboveOf fr o r) : r = some K := by
  cases r with
  | none => exact absurd (h K ho hK) hn
  | some k =>
    obtain ⟨h1, h2, h3, h4⟩ := h
    rcases Nat.lt_trichotomy k K with e | e | e
    · exact absurd (hmin k h1 e) h3
    · rw [e]
    · exact absurd (h4 K ho e) hn
def RelTk (κ : Kol) (i b n c o K x : Nat) (fr : Nat → List Nat) (tk : Int → Option Int) (w : World) (v6 : Value) (wr : World) : Prop :=
  ∃ kk : Nat, v6 = .int .i64 kk ∧ o ≤ kk ∧ kk ≤ K ∧ BuddyK κ i wr b n c (frAt fr K x kk) tk ∧ Upd (fun y => i < y ∧ y < i + 12) κ w κ wr
theorem pow_le11 : ∀ j : Nat, j < 11 → 2 ^ j ≤ 1024 := by decide
set_option maxHeartbeats 4000000 in
set_option maxRecDepth 100000 in
theorem take_bud [SortI] (κ : Kol) (i b n c o K x : Nat) (r : List Nat) (fr : Nat → List Nat) (tk : Int → Option Int) (ho : o ≤ K) (hK : K < 11) (hx : fr K = x :: r) (hmin : ∀ j, o ≤ j → j < K → fr j = []) (hok : BudOK n fr) (hc : c < 1000000) (w : World) (h : BuddyK κ i w b n c fr tk) :
    Calls Tryz.prog 155 #[.pointer (some ⟨b, 0, none⟩), .int .i64 o] w fun e w' => e = .returned (.tuple #[.int .i64 x, .int .i64 0]) ∧ BuddyK κ i w' b n (c + 1) (frAt fr K x o) (putF tk x o) ∧ Upd (fun y => i < y ∧ y < i + 13) κ w κ w' := by
  have hxl := hok.lt K hK x (by rw [hx]; simp)
  have hmx := hok.max
  have hpK := Nat.one_le_two_pow (n := K)
  have HR := Aside0.mk (right_own b o (by omega) w)
  have HA := Aside0.mk (above_own κ i b n c o fr tk (by omega) w h)
  have HF := Aside0.mk (first_own κ i b n c K fr tk hK x r hx (hok.sorted K hK) (by have := hok.len K hK; omega) (fun y hy => i64o _ (by omega) (by have := hok.lt K hK y hy; omega)) w h)
  have HBK := Aside0.mk h
  have HM := Aside0.mk hmin
  have HX := Aside0.mk hx
  have hx1 : x < 1024 := by omega
  have HXL := Aside0.mk (show x + 2 ^ K ≤ 1024 by omega)
  clear h hmin hok hxl hmx hpK
  go_enter Tryz.func155, Tryz.ntmps155
  go_wp2_with (first | (go_at_call 129; (with_reducible refine HR.out.mono ?_); rintro e_ w1 ⟨rfl, rfl⟩) | (go_at_call 130; (with_reducible refine HA.out.mono ?_); rintro e_ w1 ⟨r1, rfl, hr, rfl⟩; obtain rfl : r1 = some K := above_is HM.out (by rw [HX.out]; simp) ho hK hr; clear hr) | (go_at_call 197; (with_reducible refine HF.out.mono ?_); rintro e_ w2 ⟨rfl, hb2⟩; have HB2 := Aside0.mk hb2; obtain ⟨mk, w3, s0, hdel, hbud, hu3⟩ := (HBK.out.upd (I := fun _ => False) (Upd.of_below κ hb2) (fun _ _ h => h)).drop K hK x r (i64o _ (by omega) (by omega)) HX.out 0; have HB3 := Aside0.mk hbud; have HU3 := Aside0.mk hu3; clear hb2 hbud hu3))
  have H0 := Aside0.mk (show RelTk κ i b n c o K x fr tk w1 (.int .i64 K) w3 from ⟨K, rfl, ho, Nat.le_refl _, by rw [← frAt_start fr K x r HX.out]; exact HB3.out, (Upd.of_below κ HB2.out).then HU3.out (fun y e => by omega)⟩)
  clear HB3 HU3 HBK
  go_loopw [6] (fun v6 wr => RelTk κ i b n c o K x fr tk w1 v6 wr) (fun v6 _ => (intOf v6).toNat)
  case atStart => exact H0.out
  case round =>
    clear H0 s0
    obtain ⟨kk, rfl, hk1, hk2, hbud, hu⟩ := hrel
    have HBK := Aside0.mk hbud
    have HU := Aside0.mk hu
    clear hbud hu
    by_cases hlt : o < kk
    · obtain ⟨jj, rfl⟩ : ∃ jj, kk = jj + 1 := ⟨kk - 1, by omega⟩
      have hltI : (o : Int) < (jj : Int) + 1 := by omega
      have e1 : wrap64 ((jj : Int) + 1 - 1) = (jj : Int) := by rw [show (jj : Int) + 1 - 1 = jj by omega]; exact IntWalk.wrap64_in _ ⟨by omega, by omega⟩
      have e0 : wrap64 (jj : Int) = (jj : Int) := IntWalk.wrap64_in _ ⟨by omega, by omega⟩
      have es := shl_64 jj (by omega)
      obtain ⟨mk, hmk⟩ : ∃ mk, wr.cell? ⟨b, 1 + jj, none⟩ = some (.map (some mk)) := by obtain ⟨m, t, h1, _⟩ := HBK.out; exact ⟨_, h1.blk.at (1 + jj) _ (bud_at' n m t jj (by omega))⟩
      have hq1 := pow_le11 jj (by omega)
      obtain ⟨q, hq⟩ : ∃ q, 2 ^ jj = q := ⟨_, rfl⟩
      rw [hq] at es hq1
      have HQ := Aside0.mk hq
      have hI := i64o ((x + q : Nat) : Int) (by omega) (by omega)
      have HI := Aside0.mk hI
      have j0 : (0 : Int) ≤ (jj : Int) := by omega
      have jl : (jj : Int) < 11 := by omega
      have ea : wrap64 ((x : Int) + (q : Int)) = ((x + q : Nat) : Int) := by rw [show (x : Int) + (q : Int) = ((x + q : Nat) : Int) by omega]; exact IntWalk.wrap64_in _ ⟨by omega, by omega⟩
      clear hq hq1 hI
      go_upto_region 10 with fail
      refine st_ 13 (fun w' => w'.cell? ⟨b, 1 + jj, none⟩ = some (.map (some mk))) [12] (hmk) (fun hHeld => ?_)
      have hd_ := below_drew (RowKit.Below.refl wr.heap.size wr)
      have n0_ := Aside0.mk (HBK.out.upd (I := fun _ => False) (Upd.of_below κ hd_) (fun _ _ h => h))
      have n1_ := Aside0.mk (HU.out.below hd_)
      clear HBK HU hd_
      generalize wr.drew = wd at *
      obtain ⟨mk2, w5, t0, hrun, hbud, hu5⟩ := n0_.out.fill jj (by omega) (x + q) HI.out (by unfold frAt; rw [if_neg (by omega), if_neg (by omega)]; exact HM.out jj (by omega) (by omega))
      obtain rfl : mk2 = mk := by have e_ := hHeld.symm.trans t0; injection e_ with e_; injection e_ with e_; injection e_ with e_; exact e_.symm
      clear t0
      rw [Int.natCast_add] at hrun
      have HB5 := Aside0.mk hbud
      have HU5 := Aside0.mk hu5
      clear hbud hu5
      refine pu_ 0 36 1 ?_
      refine pu_ 1 37 3 ?_
      refine pu_ 2 38 7 ?_
      refine pu_ 3 39 15 ?_
      refine pu_ 4 40 31 ?_
      refine pu_ 5 41 63 ?_
      refine pu_ 7 43 191 ?_
      refine pu_ 8 44 447 ?_
      refine pu_ 9 45 959 ?_
      refine pu_ 10 46 1983 ?_
      refine pu_ 11 47 4031 ?_
      refine ta_ 6 42 4095 hHeld ?_
      refine last_ (i := 12) (N := none) (bz 13 8191) rfl rfl (by kernel_rfl) (by decide) (fun K hK => ?_)
      refine skip_ (w1 := ?_) (by rfl) rfl ?_ ?_
      rotate_left
      · go_simp
        rfl
      refine hK.out _ _ ?_
      clear hK K
      refine done_ (by kernel_rfl) ?_
      go_wp2_with fail
      refine ⟨⟨jj, by simp, by omega, by omega, ?_, n1_.out.then HU5.out (fun y e => by omega)⟩, ?_⟩
      · rw [← frAt_step fr K x jj (by omega), HQ.out]
        exact HB5.out
      · simp only [intOf]; omega
    · obtain rfl : kk = o := by omega
      obtain ⟨t, w6, s12, hrun6, hb6, hu6⟩ := HBK.out.note x kk (i64o _ (by omega) (by omega)) (i64o _ (by omega) (by omega)) hc
      have HB6 := Aside0.mk hb6
      have HU6 := Aside0.mk hu6
      clear hb6 hu6 HBK
      go_wp2_with fail
      go_ret2
      exact ⟨rfl, HB6.out, (HU.out.mono (J := fun y => i < y ∧ y < i + 13) (fun y e => by omega)).then HU6.out (fun y e => by omega)⟩
/-- How many frames are free. -/
def freeS (fr : Nat → List Nat) : Nat → Nat
  | 0 => 0
  | k + 1 => freeS fr k + (fr k).length * 2 ^ k
theorem freeS_le {fr : Nat → List Nat} (h : ∀ k, k < 11 → (fr k).length ≤ 1024) : ∀ k, k ≤ 11 → freeS fr k ≤ 1024 * 2 ^ k
  | 0, _ => by simp [freeS]
  | k + 1, hk => by
    have h1 := freeS_le h k (by omega)
    have h2 : (fr k).length * 2 ^ k ≤ 1024 * 2 ^ k := Nat.mul_le_mul_right _ (h k (by omega))
    rw [freeS, Nat.pow_succ]
    omega
theorem idx_free (m : Nat → Nat) (j : Nat) (hj : j < 11) (w : World) : (Instr.index 197 (.agg #[.map (some (m 0)), .map (some (m 1)), .map (some (m 2)), .map (some (m 3)), .map (some (m 4)), .map (some (m 5)), .map (some (m 6)), .map (some (m 7)), .map (some (m 8)), .map (some (m 9)), .map (some (m 10))]) (.int .i64 (j : Int))).run Tryz.prog w = .ok (.map (some (m j))) w := by
  match j, hj with
  | 0, _ => simp [Instr.index, run_underlying Tryz.underlying197, asIntOf, part, Tryz.sizeOf196, Tryz.isAgg196]
  | 1, _ => simp [Instr.index, run_underlying Tryz.underlying197, asIntOf, part, Tryz.sizeOf196, Tryz.isAgg196]
  | 2, _ => simp [Instr.index, run_underlying Tryz.underlying197, asIntOf, part, Tryz.sizeOf196, Tryz.isAgg196]
  | 3, _ => simp [Instr.index, run_underlying Tryz.underlying197, asIntOf, part, Tryz.sizeOf196, Tryz.isAgg196]
  | 4, _ => simp [Instr.index, run_underlying Tryz.underlying197, asIntOf, part, Tryz.sizeOf196, Tryz.isAgg196]
  | 5, _ => simp [Instr.index, run_underlying Tryz.underlying197, asIntOf, part, Tryz.sizeOf196, Tryz.isAgg196]
  | 6, _ => simp [Instr.index, run_underlying Tryz.underlying197, asIntOf, part, Tryz.sizeOf196, Tryz.isAgg196]
  | 7, _ => simp [Instr.index, run_underlying Tryz.underlying197, asIntOf, part, Tryz.sizeOf196, Tryz.isAgg196]
  | 8, _ => simp [Instr.index, run_underlying Tryz.underlying197, asIntOf, part, Tryz.sizeOf196, Tryz.isAgg196]
  | 9, _ => simp [Instr.index, run_underlying Tryz.underlying197, asIntOf, part, Tryz.sizeOf196, Tryz.isAgg196]
  | 10, _ => simp [Instr.index, run_underlying Tryz.underlying197, asIntOf, part, Tryz.sizeOf196, Tryz.isAgg196]
def RelFr (w : World) (fr : Nat → List Nat) (v3 v12 : Value) (wr : World) : Prop := wr = w ∧ ∃ j : Nat, v12 = .int .i64 j ∧ v3 = .int .i64 (freeS fr j) ∧ j ≤ 11
set_option maxHeartbeats 2000000 in
set_option maxRecDepth 100000 in
theorem free_bud (κ : Kol) (i b n c : Nat) (fr : Nat → List Nat) (tk : Int → Option Int) (hl : ∀ k, k < 11 → (fr k).length ≤ 1024) (w : World) (h : BuddyK κ i w b n c fr tk) :
    Calls Tryz.prog 75 #[.pointer (some ⟨b, 0, none⟩)] w fun e w' => e = .returned (.int .i64 (freeS fr 11)) ∧ w' = w := by
  obtain ⟨m, t, h1, h2, h3⟩ := h
  have s1 := h1.blk.at 1 (.map (some (m 0))) rfl
  have s2 := h1.blk.at 2 (.map (some (m 1))) rfl
  have s3 := h1.blk.at 3 (.map (some (m 2))) rfl
  have s4 := h1.blk.at 4 (.map (some (m 3))) rfl
  have s5 := h1.blk.at 5 (.map (some (m 4))) rfl
  have s6 := h1.blk.at 6 (.map (some (m 5))) rfl
  have s7 := h1.blk.at 7 (.map (some (m 6))) rfl
  have s8 := h1.blk.at 8 (.map (some (m 7))) rfl
  have s9 := h1.blk.at 9 (.map (some (m 8))) rfl
  have s10 := h1.blk.at 10 (.map (some (m 9))) rfl
  have s11 := h1.blk.at 11 (.map (some (m 10))) rfl
  have HS := Aside0.mk h2
  have HL := Aside0.mk hl
  have HI := Aside0.mk (idx_free m)
  clear h1 h2 h3 hl
  go_enter Tryz.func75, Tryz.ntmps75
  go_wp2_with fail
  have H0 := Aside0.mk (show RelFr w fr (.int .i64 0) (.int .i64 0) w from ⟨rfl, 0, rfl, rfl, by omega⟩)
  clear s1 s2 s3 s4 s5 s6 s7 s8 s9 s10 s11
  go_loopw [3, 4, 5, 12] (fun v3 _ _ v12 wr => RelFr w fr v3 v12 wr) (fun _ _ _ v12 _ => 11 - (intOf v12).toNat)
  case atStart => exact H0.out
  case round =>
    clear H0
    obtain ⟨rfl, j, rfl, rfl, hj⟩ := hrel
    by_cases hlt : j < 11
    · have hltI : (j : Int) < 11 := by omega
      have j0 : (0 : Int) ≤ (j : Int) := by omega
      have hidx := HI.out j hlt
      have hlen := (HS.out j hlt).len
      have hle := HL.out j hlt
      have hp := pow_le11 j hlt
      have hfl := freeS_le HL.out j (by omega)
      have HF := Aside0.mk (show freeS fr (j + 1) = freeS fr j + (fr j).length * 2 ^ j from rfl)
      obtain ⟨q, hq⟩ : ∃ q, (fr j).length = q := ⟨_, rfl⟩
      obtain ⟨a, ha⟩ : ∃ a, freeS fr j = a := ⟨_, rfl⟩
      have hm : q * 2 ^ j ≤ 1024 * 1024 := by rw [← hq]; exact Nat.mul_le_mul hle hp
      rw [hq] at hlen hle HF
      rw [ha] at hfl HF ⊢
      have hfl2 : a ≤ 1048576 := Nat.le_trans hfl (Nat.mul_le_mul_left 1024 hp)
      clear hfl hp ha hq
      go_wp2_with fail
      have c1 : (q : Int) * 2 ^ j = ((q * 2 ^ j : Nat) : Int) := by rw [Int.natCast_mul, Int.natCast_pow]; rfl
      obtain ⟨z, hz⟩ : ∃ z, q * 2 ^ j = z := ⟨_, rfl⟩
      rw [c1, hz, IntWalk.wrap64_in (z : Int) ⟨by omega, by omega⟩, IntWalk.wrap64_in ((a : Int) + (z : Int)) ⟨by omega, by omega⟩]
      refine ⟨⟨rfl, j + 1, by simp, ?_, by omega⟩, ?_⟩
      · rw [HF.out, hz]; simp
      · simp only [intOf]; omega
    · obtain rfl : j = 11 := by omega
      go_wp2_with fail
      go_ret
      exact ⟨rfl, rfl⟩
end Go.Proofs.YtenkdmloolbdaaaGreatDoor.T
end
section
namespace Go.Proofs.YtenkdmloolbdaaaGreatDoor.T
open Go.RowKit Go.Maps Go.WideShapes Go.Proofs.YtenkdmloolbdaaaGreatDoorW.PrintWords Go.Proofs.YtenkdmloolbdaaaGreatDoorW.PrintLast Go.Proofs.YtenkdmloolbdaaaGreatDoorW.PrintMore
set_option linter.unusedVariables false
set_option linter.unusedSimpArgs false
theorem w64 (x : Int) (h : 0 ≤ x ∧ x ≤ 1000000) : wrap64 x = x := IntWalk.wrap64_in _ ⟨by omega, by omega⟩
/-- Pointers to blocks, as elements of a row. -/
def pk : Kd Nat := Kd.scalar (fun b : Nat => Value.pointer (some ⟨b, 0, none⟩)) (fun _ => rfl)
theorem pk_at {w : World} {A : Option Addr} {n : Nat} {xs : List Nat} (h : pk.C w A n xs) (i : Nat) (hi : i < n) (b : Nat) (hb : xs[i]? = some b) : ∃ ad, A = some ad ∧ w.cell? (ad.add i) = some (.pointer (some ⟨b, 0, none⟩)) := by
  obtain ⟨ad, c, e, hl, hK, hc⟩ := Kd.C_get h 0 (i : Int) (by omega) (by omega)
  refine ⟨ad, e, ?_⟩
  have hK' : c = [Value.pointer (some ⟨xs.getD (i : Int).toNat 0, 0, none⟩)] := hK
  rw [Int.toNat_natCast, List.getD_eq_getElem?_getD, hb] at hK'
  have := hc 0 (.pointer (some ⟨b, 0, none⟩)) (by rw [hK']; rfl)
  simpa [show pk.sz = 1 from rfl] using this
/-- A node's buddy. -/
structure Bud where
  c : Nat
  fr : Nat → List Nat
  tk : Int → Option Int
/-- A heap in memory. -/
structure HeapK (κ : Kol) (i : Nat) (w : World) (b each : Nat) (mn lo hi : Int) (bs : List Bud) : Prop where
  row : ∃ v ps, BlkK κ i w b #[.int .i64 each, .int .i64 mn, .int .i64 lo, .int .i64 hi, v] 147 ∧ KR pk 143 κ (i + 1) w v ps ∧ ps.length = bs.length ∧ ∀ j x, bs[j]? = some x → ∃ p, ps[j]? = some p ∧ BuddyK κ (i + 2 + 13 * j) w p each x.c x.fr x.tk
theorem HeapK.upd {I : Nat → Prop} {κ κ1 : Kol} {i b each : Nat} {mn lo hi : Int} {w w1 : World} {bs : List Bud} (h : HeapK κ i w b each mn lo hi bs) (k : Upd I κ w κ1 w1) (hi' : ∀ c, c < 2 + 13 * bs.length → ¬ I (i + c)) : HeapK κ1 i w1 b each mn lo hi bs := by
  obtain ⟨v, ps, h1, h2, h3, h4⟩ := h
  refine ⟨v, ps, h1.upd k (hi' 0 (by omega)), h2.upd k (hi' 1 (by omega)), h3, fun j x hx => ?_⟩
  obtain ⟨p, hp, hb⟩ := h4 j x hx
  have hj := (List.getElem?_eq_some_iff.1 hx).1
  exact ⟨p, hp, hb.upd k (fun c hc => by have := hi' (2 + 13 * j + c) (by omega); rwa [show i + (2 + 13 * j + c) = i + 2 + 13 * j + c by omega] at this)⟩
set_option maxHeartbeats 1000000 in
set_option maxRecDepth 100000 in
theorem heap_at (κ : Kol) (i b each : Nat) (mn lo hi : Int) (v : Value) (ps : List Nat) (j p : Nat) (hp : ps[j]? = some p) (hl : ps.length ≤ 1000) (w : World) (h1 : BlkK κ i w b #[.int .i64 each, .int .i64 mn, .int .i64 lo, .int .i64 hi, v] 147) (h2 : KR pk 143 κ (i + 1) w v ps) :
    Calls Tryz.prog 74 #[.pointer (some ⟨b, 0, none⟩), .int .i64 j] w fun e w' => e = .returned (.pointer (some ⟨p, 0, none⟩)) ∧ w' = w := by
  have hj := (List.getElem?_eq_some_iff.1 hp).1
  obtain ⟨A, c, rfl, hle, hC⟩ := h2.reads
  obtain ⟨ad, rfl, q0⟩ := pk_at hC j (by omega) p hp
  have s4 := h1.blk.at 4 _ rfl
  obtain ⟨m, hm⟩ : ∃ m, ps.length = m := ⟨_, rfl⟩
  have s5 : w.cell? ⟨b, 4, none⟩ = some (.slice (some ad) m c) := by rw [← hm]; exact s4
  have j0 : (0 : Int) ≤ (j : Int) := by omega
  have jI : (j : Int) < (m : Int) := by omega
  have d0 : decide ((j : Int) < 0) = false := decide_eq_false (by omega)
  have d1 : decide (m ≤ j) = false := decide_eq_false (by omega)
  clear h1 h2 hC s4 hle hm hp
  go_enter Tryz.func74, Tryz.ntmps74
  go_wp2_with fail
  go_ret
  exact ⟨rfl, rfl⟩
theorem heap_node (κ : Kol) (i b each : Nat) (mn lo hi : Int) (bs : List Bud) (j : Nat) (x : Bud) (hx : bs[j]? = some x) (hl : bs.length ≤ 1000) (w : World) (h : HeapK κ i w b each mn lo hi bs) :
    Calls Tryz.prog 74 #[.pointer (some ⟨b, 0, none⟩), .int .i64 j] w fun e w' => ∃ p, e = .returned (.pointer (some ⟨p, 0, none⟩)) ∧ BuddyK κ (i + 2 + 13 * j) w p each x.c x.fr x.tk ∧ w' = w := by
  obtain ⟨v, ps, h1, h2, h3, h4⟩ := h
  obtain ⟨p, hp, hb⟩ := h4 j x hx
  exact (heap_at κ i b each mn lo hi v ps j p hp (by omega) w h1 h2).mono (by rintro e w' ⟨rfl, rfl⟩; exact ⟨p, rfl, hb, rfl⟩)
/-- The least order from one on of which there is a free run. -/
def aboveN (fr : Nat → List Nat) (o : Nat) : Option Nat := (List.range 11).find? fun k => decide (o ≤ k) && decide (fr k ≠ [])
theorem range_split : ∀ k : Nat, k < 11 → List.range 11 = List.range k ++ k :: List.range' (k + 1) (10 - k) := by decide
theorem above_n {fr : Nat → List Nat} {o : Nat} {r : Option Nat} (h : aboveOf fr o r) : r = aboveN fr o := by
  unfold aboveN
  symm
  cases r with
  | none =>
    rw [List.find?_eq_none]
    intro k hk
    rw [List.mem_range] at hk
    by_cases e : o ≤ k
    · simp [h k e hk]
    · simp [e]
  | some k =>
    obtain ⟨h1, h2, h3, h4⟩ := h
    rw [List.find?_eq_some_iff_append]
    refine ⟨by simp [h1, h3], List.range k, (List.range' (k + 1) (10 - k)), ?_, ?_⟩
    · exact range_split k h2
    · intro j hj
      rw [List.mem_range] at hj
      by_cases e : o ≤ j
      · simp [h4 j e hj]
      · simp [e]
/-- May a node give a run of an order? -/
def mayB (mn : Int) (x : Bud) (o : Nat) : Bool := (aboveN x.fr o).isSome && decide ((freeS x.fr 11 : Int) - ((2 ^ o : Nat) : Int) ≥ mn)
theorem below_of (κ : Kol) {w w1 : World} (h : RowKit.Below w.heap.size w w1) {i b each : Nat} {mn lo hi : Int} {bs : List Bud} (hb : HeapK κ i w b each mn lo hi bs) : HeapK κ i w1 b each mn lo hi bs := hb.upd (I := fun _ => False) (Upd.of_below κ h) (fun _ _ h => h)
theorem has_is (κ : Kol) (i b n c o : Nat) (fr : Nat → List Nat) (tk : Int → Option Int) (ho : o < 11) (w : World) (h : BuddyK κ i w b n c fr tk) :
    Calls Tryz.prog 76 #[.pointer (some ⟨b, 0, none⟩), .int .i64 o] w fun e w' => e = .returned (.bool (aboveN fr o).isSome) ∧ w' = w :=
  (has_own κ i b n c o fr tk ho w h).mono (by rintro e w' ⟨r, rfl, hr, rfl⟩; rw [above_n hr]; exact ⟨rfl, rfl⟩)
set_option maxHeartbeats 1000000 in
set_option maxRecDepth 100000 in
theorem heap_may (κ : Kol) (i b each : Nat) (mn lo hi : Int) (bs : List Bud) (j o : Nat) (ho : o < 11) (x : Bud) (hx : bs[j]? = some x) (hl : bs.length ≤ 1000) (hf : ∀ k, k < 11 → (x.fr k).length ≤ 1024) (hmn : -100000 ≤ mn) (w : World) (h : HeapK κ i w b each mn lo hi bs) :
    Calls Tryz.prog 31 #[.pointer (some ⟨b, 0, none⟩), .int .i64 j, .int .i64 o] w fun e w' => e = .returned (.bool (mayB mn x o)) ∧ RowKit.Below w.heap.size w w' := by
  have HN := Aside0.mk (heap_node κ i b each mn lo hi bs j x hx hl w h)
  obtain ⟨v, ps, h1, h2, h3, h4⟩ := h
  have HBX := Aside0.mk h1
  obtain ⟨r, hr⟩ : ∃ r, (aboveN x.fr o).isSome = r := ⟨_, rfl⟩
  have hfl := freeS_le hf 11 (Nat.le_refl _)
  have hp := pow_le11 o ho
  have es := shl_64 o ho
  have HHA := Aside0.mk (fun (W : World) (p : Nat) (hW : BuddyK κ (i + 2 + 13 * j) W p each x.c x.fr x.tk) => by have := has_is κ (i + 2 + 13 * j) p each x.c o x.fr x.tk ho W hW; rw [hr] at this; exact this)
  have HFR := Aside0.mk (fun (W : World) (p : Nat) (hW : BuddyK κ (i + 2 + 13 * j) W p each x.c x.fr x.tk) => free_bud κ (i + 2 + 13 * j) p each x.c x.fr x.tk hf W hW)
  obtain ⟨a, ha⟩ : ∃ a, freeS x.fr 11 = a := ⟨_, rfl⟩
  obtain ⟨q, hq⟩ : ∃ q, 2 ^ o = q := ⟨_, rfl⟩
  have HM := Aside0.mk (show mayB mn x o = (r && decide ((a : Int) - (q : Int) ≥ mn)) from by unfold mayB; rw [hr, ha, hq])
  rw [ha] at hfl HFR
  rw [hq] at hp es
  have ew : wrap64 ((a : Int) - (q : Int)) = (a : Int) - (q : Int) := IntWalk.wrap64_in _ ⟨by omega, by omega⟩
  clear h1 h2 h3 h4 hf hfl hp ha hq hr
  rw [HM.out]
  clear HM
  go_enter Tryz.func31, Tryz.ntmps31
  go_upto_region 2 with (go_at_call 74; (with_reducible refine HN.out.mono ?_); rintro e_ w1 ⟨p, rfl, q1, rfl⟩; have HB := Aside0.mk q1; clear q1)
  have s1 := HBX.out.blk.at 1 (.int .i64 mn) rfl
  cases r
  · refine st_ 17 (fun w' => w'.cell? ⟨b, 1, none⟩ = some (.int .i64 mn)) [] (s1) (fun hHeld => ?_)
    have hd_ := below_drew (RowKit.Below.refl w1.heap.size w1)
    have HD := Aside0.mk hd_
    have n0_ := Aside0.mk (HB.out.upd (I := fun _ => False) (Upd.of_below κ hd_) (fun _ _ h => h))
    clear HB HBX hd_
    generalize w1.drew = wd at *
    refine pu_ 0 11 1 ?_
    refine pu_ 1 12 3 ?_
    refine one_ (i := 2) (N := some 13) (bz 17 7) rfl rfl (by kernel_rfl) (by decide) (fun K hK => ?_)
    refine goes_ Tryz.func76 (by kernel_rfl) rfl #[.pointer (some ⟨p, 0, none⟩), .int .i64 o] (by rfl) rfl rfl (by simp only [List.map_toArray, List.map_cons, List.map_nil]; rfl) ?_
    with_reducible refine (HHA.out _ p n0_.out).mono ?_
    rintro e_ w3 ⟨rfl, rfl⟩
    refine ⟨_, rfl, ?_⟩
    refine hK.out _ _ (hHeld) (fun hHeld => ?_)
    clear hK K
    refine no_ 13 ?_
    refine pu_ 3 14 15 ?_
    refine po_ 4 15 31 ?_
    refine po_ 5 16 63 ?_
    refine po_ 6 17 127 ?_
    refine po_ 7 18 255 ?_
    refine po_ 8 19 511 ?_
    refine po_ 9 20 1023 ?_
    refine po_ 10 21 2047 ?_
    refine po_ 11 22 4095 ?_
    refine po_ 12 23 8191 ?_
    refine po_ 13 24 16383 ?_
    refine po_ 14 25 32767 ?_
    refine pu_ 15 26 65535 ?_
    refine pu_ 16 6 131071 ?_
    refine done_ (by kernel_rfl) ?_
    go_wp2_with fail
    go_ret
    exact ⟨rfl, HD.out⟩
  · refine st_ 17 (fun w' => w'.cell? ⟨b, 1, none⟩ = some (.int .i64 mn)) [] (s1) (fun hHeld => ?_)
    have hd_ := below_drew (RowKit.Below.refl w1.heap.size w1)
    have HD := Aside0.mk hd_
    have n0_ := Aside0.mk (HB.out.upd (I := fun _ => False) (Upd.of_below κ hd_) (fun _ _ h => h))
    clear HB HBX hd_
    generalize w1.drew = wd at *
    refine pu_ 0 11 1 ?_
    refine pu_ 1 12 3 ?_
    refine one_ (i := 2) (N := some 13) (bz 17 7) rfl rfl (by kernel_rfl) (by decide) (fun K hK => ?_)
    refine goes_ Tryz.func76 (by kernel_rfl) rfl #[.pointer (some ⟨p, 0, none⟩), .int .i64 o] (by rfl) rfl rfl (by simp only [List.map_toArray, List.map_cons, List.map_nil]; rfl) ?_
    with_reducible refine (HHA.out _ p n0_.out).mono ?_
    rintro e_ w3 ⟨rfl, rfl⟩
    refine ⟨_, rfl, ?_⟩
    refine hK.out _ _ (hHeld) (fun hHeld => ?_)
    clear hK K
    refine no_ 13 ?_
    refine pu_ 3 14 15 ?_
    refine pu_ 4 15 31 ?_
    refine pu_ 6 17 95 ?_
    refine pu_ 7 18 223 ?_
    refine pu_ 9 20 735 ?_
    refine pu_ 10 21 1759 ?_
    refine pu_ 11 22 3807 ?_
    refine pu_ 12 23 7903 ?_
    refine ta_ 13 24 16095 hHeld ?_
    refine one_ (i := 5) (N := some 16) (bz 17 16127) rfl rfl (by kernel_rfl) (by decide) (fun K hK => ?_)
    refine goes_ Tryz.func75 (by kernel_rfl) rfl #[.pointer (some ⟨p, 0, none⟩)] (by rfl) rfl rfl (by simp only [List.map_toArray, List.map_cons, List.map_nil]; rfl) ?_
    with_reducible refine (HFR.out _ p n0_.out).mono ?_
    rintro e_ w3 ⟨rfl, rfl⟩
    refine ⟨_, rfl, ?_⟩
    refine hK.out _ _ (hHeld) (fun hHeld => ?_)
    clear hK K
    refine no_ 16 ?_
    refine pu_ 8 19 16383 ?_
    refine pu_ 14 25 32767 ?_
    refine pu_ 15 26 65535 ?_
    refine pu_ 16 6 131071 ?_
    refine done_ (by kernel_rfl) ?_
    go_wp2_with fail
    go_ret
    exact ⟨rfl, HD.out⟩
def RelAll (w : World) (mn : Int) (o : Nat) (bs : List Bud) (v5 v14 : Value) (wr : World) : Prop :=
  ∃ j : Nat, v14 = .int .i64 j ∧ j ≤ bs.length ∧ Kd.R Kd.bool 4 wr w.heap.size (fun _ => True) v5 ((bs.take j).map fun x => mayB mn x o) ∧ RowKit.Below w.heap.size w wr
set_option maxHeartbeats 2000000 in
set_option maxRecDepth 100000 in
theorem heap_all (κ : Kol) (i b each : Nat) (mn lo hi : Int) (bs : List Bud) (o : Nat) (ho : o < 11) (hl : bs.length ≤ 1000) (hf : ∀ x ∈ bs, ∀ k, k < 11 → (x.fr k).length ≤ 1024) (hmn : -100000 ≤ mn) (w : World) (h : HeapK κ i w b each mn lo hi bs) :
    Calls Tryz.prog 48 #[.pointer (some ⟨b, 0, none⟩), .int .i64 o] w fun e w' => ∃ A c, e = .returned (.slice A bs.length c) ∧ bs.length ≤ c ∧ Kd.bool.C w' A bs.length (bs.map fun x => mayB mn x o) ∧ RowKit.Below w.heap.size w w' := by
  have HH := Aside0.mk h
  obtain ⟨v, ps, h1, h2, h3, h4⟩ := h
  obtain ⟨A, c, rfl, hle, hC⟩ := h2.reads
  obtain ⟨m, hm⟩ : ∃ m, ps.length = m := ⟨_, rfl⟩
  have s4 : w.cell? ⟨b, 4, none⟩ = some (.slice A m c) := by rw [← hm]; exact h1.blk.at 4 _ rfl
  have HMB := Aside0.mk (show bs.length = m by omega)
  have HF := Aside0.mk hf
  have info4 : (Tryz.prog.info? 4).map (fun i => (i.zero, i.size, i.bytes)) = some (some (.bool false), 1, 1) := by kernel_rfl
  clear h1 h2 h3 h4 hC hle hf hm
  go_enter Tryz.func48, Tryz.ntmps48
  go_wp2_with fail
  have H0 := Aside0.mk (show RelAll w mn o bs (.slice none 0 0) (.int .i64 0) w from ⟨0, rfl, Nat.zero_le _, Kd.R_nil _ _ _ _ _, RowKit.Below.refl _ _⟩)
  go_loopw [5, 6, 14] (fun v5 _ v14 wr => RelAll w mn o bs v5 v14 wr) (fun _ _ v14 _ => m - (intOf v14).toNat)
  case atStart => exact H0.out
  case round =>
    clear H0 s4
    obtain ⟨j, rfl, hj, hR, hB⟩ := hrel
    have HR := Aside0.mk hR
    have HB := Aside0.mk hB
    have hmb := HMB.out
    clear hR hB
    by_cases hlt : j < m
    · have jI : (j : Int) < (m : Int) := by omega
      have j0 : (0 : Int) ≤ (j : Int) := by omega
      obtain ⟨x, hx⟩ : ∃ x, bs[j]? = some x := ⟨_, List.getElem?_eq_getElem (by omega)⟩
      have HX := Aside0.mk hx
      have HM := Aside0.mk (heap_may κ i b each mn lo hi bs j o ho x hx hl (HF.out x (List.mem_of_getElem? hx)) hmn wr (below_of κ HB.out HH.out))
      clear hx
      go_wp2_with (first | (go_at_call 31; (with_reducible refine HM.out.mono ?_); rintro e_ w1 ⟨rfl, hb⟩; have HR1 := Aside0.mk (Kd.R_below HR.out hb); have HB1 := Aside0.mk (below_then HB.out HB.out.size hb); clear hb) | ((with_reducible refine gate_builtin (b := .append) (xs := #[.tmp 17, .tmp 22]) rfl ?_); at_builtin; refine Kd.R_append Kd.bool (w0 := w) w.heap.size rfl (.tmp 17) (.tmp 22) 93 4 (.bool false) 1 rfl Tryz.underlying93 info4 rfl (by decide) (by omega) u5 ((bs.take j).map fun x => mayB mn x o) (mayB mn x o) [.bool (mayB mn x o)] (fun _ => True) (fun _ => False) rfl rfl ?aP (fun _ hk => hk.elim) ?aF ?aO ?aB ?aS ?aL ?_; (case aP => exact rfl); (case aB => exact HB1.out); (case aF => exact (fun _ _ => trivial)); (case aO => exact HR1.out); (case aS => exact HB1.out.size); (case aL => simp; omega); intro v7 w7 ho7 hb7 hg7 hat7; have H7 := Aside0.mk (And.intro ho7 hb7); clear ho7 hb7 hg7 hat7))
      refine ⟨⟨j + 1, by simp, by omega, ?_, H7.out.2⟩, ?_⟩
      · have := H7.out.1
        rw [List.take_add_one, HX.out]
        simpa using this
      · simp only [intOf]; omega
    · obtain rfl : j = m := by omega
      obtain ⟨A2, c2, rfl, hle2, hC2⟩ := Kd.R_reads HR.out
      have HC2 := Aside0.mk (And.intro hle2 hC2)
      clear hle2 hC2 HR
      go_wp2_with fail
      go_ret
      have hlen : ((bs.take j).map fun x => mayB mn x o).length = bs.length := by rw [List.length_map, List.length_take]; omega
      have htk : bs.take j = bs := List.take_of_length_le (by omega)
      obtain ⟨g1, g2⟩ := HC2.out
      rw [hlen] at g1 g2
      rw [htk] at g2
      exact ⟨A2, c2, by rw [hlen]; rfl, g1, g2, HB.out⟩
/-- A heap whose node j has another buddy. -/
theorem HeapK.put {κ : Kol} {i b each : Nat} {mn lo hi : Int} {w w1 : World} {bs : List Bud} {j p : Nat} {x y : Bud} {v : Value} {ps : List Nat} (h1 : BlkK κ i w b #[.int .i64 each, .int .i64 mn, .int .i64 lo, .int .i64 hi, v] 147) (h2 : KR pk 143 κ (i + 1) w v ps) (h3 : ps.length = bs.length) (h4 : ∀ j x, bs[j]? = some x → ∃ p, ps[j]? = some p ∧ BuddyK κ (i + 2 + 13 * j) w p each x.c x.fr x.tk)
    (hx : bs[j]? = some x) (hp : ps[j]? = some p) (hb : BuddyK κ (i + 2 + 13 * j) w1 p each y.c y.fr y.tk) (hU : Upd (fun z => i + 2 + 13 * j < z ∧ z < i + 2 + 13 * j + 13) κ w κ w1) : HeapK κ i w1 b each mn lo hi (bs.set j y) := by
  refine ⟨v, ps, h1.upd hU (by omega), h2.upd hU (by omega), by rw [List.length_set]; exact h3, fun q z hz => ?_⟩
  rw [List.getElem?_set] at hz
  split at hz
  · rename_i e
    subst e
    split at hz
    · obtain rfl := Option.some.inj hz
      exact ⟨p, hp, hb⟩
    · simp at hz
  · rename_i e
    obtain ⟨p', hp', hb'⟩ := h4 q z hz
    exact ⟨p', hp', hb'.upd hU (fun c hc => by omega)⟩
set_option maxHeartbeats 2000000 in
set_option maxRecDepth 100000 in
theorem heap_take [SortI] (κ : Kol) (i b each : Nat) (mn lo hi : Int) (bs : List Bud) (j o K y : Nat) (r : List Nat) (x : Bud) (hx : bs[j]? = some x) (hl : bs.length ≤ 8) (hmn : -100000 ≤ mn) (ho : o ≤ K) (hK : K < 11) (hy : x.fr K = y :: r) (hmin : ∀ q, o ≤ q → q < K → x.fr q = []) (hok : BudOK each x.fr) (hc : x.c < 1000000) (hmay : mayB mn x o = true) (w : World) (h : HeapK κ i w b each mn lo hi bs) :
    Calls Tryz.prog 101 #[.pointer (some ⟨b, 0, none⟩), .int .i64 j, .int .i64 o] w fun e w' => e = .returned (.tuple #[.int .i64 ((j * each + y : Nat) : Int), .int .i64 0]) ∧ HeapK κ i w' b each mn lo hi (bs.set j ⟨x.c + 1, frAt x.fr K y o, putF x.tk y o⟩) ∧ Upd (fun z => i + 2 + 13 * j < z ∧ z < i + 2 + 13 * j + 13) κ w κ w' := by
  have hj := (List.getElem?_eq_some_iff.1 hx).1
  have HM := Aside0.mk (heap_may κ i b each mn lo hi bs j o (by omega) x hx (by omega) hok.len hmn w h)
  rw [hmay] at HM
  have HH := Aside0.mk h
  obtain ⟨v, ps, h1, h2, h3, h4⟩ := h
  obtain ⟨p, hp, hb⟩ := h4 j x hx
  have HN := Aside0.mk (heap_at κ i b each mn lo hi v ps j p hp (by omega) w h1 h2)
  have HB := Aside0.mk hb
  have HX := Aside0.mk hx
  have hh1 : i + 2 + 13 * j > i := by omega
  have H1 := Aside0.mk (And.intro h1 (And.intro h2 (And.intro h3 (And.intro h4 hp))))
  have hyl : y ≤ 1024 := Nat.le_trans (Nat.le_add_right _ _) (Nat.le_trans (hok.lt K hK y (by rw [hy]; simp)) hok.max)
  have hem := hok.max
  have HT := Aside0.mk (fun (W : World) (p : Nat) hW => take_bud κ (i + 2 + 13 * j) p each x.c o K y r x.fr x.tk ho hK hy hmin hok hc W hW)
  have o0 : (0 : Int) ≤ (o : Int) := by omega
  have o1 : (o : Int) ≤ 10 := by omega
  have hje : j * each ≤ 8 * 1024 := Nat.mul_le_mul (by omega) hem
  obtain ⟨je, hje2⟩ : ∃ je, j * each = je := ⟨_, rfl⟩
  rw [hje2] at hje ⊢
  have g0 : (0 : Int) ≤ (je : Int) + (y : Int) ∧ (je : Int) + (y : Int) ≤ 1000000 := by omega
  have g1 : (0 : Int) ≤ (je : Int) ∧ (je : Int) ≤ 1000000 := by omega
  have e1 : wrap64 ((j : Int) * (each : Int)) = (je : Int) := by rw [← Int.natCast_mul, hje2]; exact w64 _ g1
  have e2 : wrap64 ((je : Int) + (y : Int)) = (je : Int) + (y : Int) := w64 _ g0
  have s0 := h1.blk.at 0 (.int .i64 each) rfl
  have HH1 := Aside0.mk hh1
  clear g0 g1 hh1 hmay hyl hem hmin hok hj hje hje2 h1 h2 h3 h4 hp hb hx
  go_enter Tryz.func101, Tryz.ntmps101
  go_wp2_with (first | (go_at_call 74; (with_reducible refine HN.out.mono ?_); rintro e_ w1 ⟨rfl, rfl⟩) | (go_at_call 31; (with_reducible refine HM.out.mono ?_); rintro e_ w2 ⟨rfl, hb⟩; have HB2 := Aside0.mk hb; clear hb) | (go_at_call 155; (with_reducible refine (HT.out _ p (HB.out.upd (I := fun _ => False) (Upd.of_below κ HB2.out) (fun _ _ h => h))).mono ?_); rintro e_ w3 ⟨rfl, q1, q2⟩; have HQ := Aside0.mk (And.intro q1 ((Upd.of_below κ HB2.out).then q2 (fun c hc => hc))); have t0 := (H1.out.1.upd HQ.out.2 (by omega)).blk.at 0 (.int .i64 each) rfl; clear q1 q2 s0))
  go_ret2
  obtain ⟨k1, k2, k3, k4, k5⟩ := H1.out
  refine ⟨by rw [Int.natCast_add]; simp [e1, e2], HeapK.put k1 k2 k3 k4 HX.out k5 HQ.out.1 HQ.out.2, HQ.out.2⟩
end Go.Proofs.YtenkdmloolbdaaaGreatDoor.T
end
