/- topo.Check: what it answers. The closure of zone.Order: what it tells of two nodes. Plain laws of the order of nodes. Sorting the nodes. zone.Order: what it answers. -/
import Derived.Test.YtenkdmloolbdaaaGreatDoorB27
import Derived.Test.YtenkdmloolbdaaaGreatDoorB28
import Derived.Test.YtenkdmloolbdaaaGreatDoorB05
import Derived.Sort.OwnSortedInts
section
namespace Go.Proofs.YtenkdmloolbdaaaGreatDoor.TZ
open Go.RowKit Go.Proofs.YtenkdmloolbdaaaGreatDoorW.PrintWords Go.Proofs.YtenkdmloolbdaaaGreatDoorW.PrintLast Go.Proofs.YtenkdmloolbdaaaGreatDoorW.PrintMore Go.Proofs.YtenkdmloolbdaaaGreatDoor.PH
set_option linter.unusedVariables false
set_option linter.unusedSimpArgs false
theorem ad_plain {w : World} {ad : Addr} {v : Value} (h : w.cell? ad = some v) : ad = ⟨ad.block, ad.off, none⟩ := by
  obtain ⟨b, o, s⟩ := ad
  cases s with
  | none => rfl
  | some s =>
    simp only [World.cell?] at h
    split at h <;> simp_all
theorem reads_plain {w : World} {A : Option Addr} {n : Nat} {xs : List Int} (h : (Kd.int .i64).C w A n xs) (h0 : 0 < n) : ∃ b off, A = some ⟨b, off, none⟩ ∧ ∀ j, j < n → w.cell? ⟨b, off + j, none⟩ = some (.int .i64 (rd xs (j : Int))) := by
  obtain ⟨ad, rfl, h1⟩ := Kd.at_int h ((0 : Nat) : Int) (by omega) (by omega)
  rw [Int.toNat_natCast, Addr.add_zero'] at h1
  have e := ad_plain h1
  refine ⟨ad.block, ad.off, by rw [← e], fun j hj => ?_⟩
  obtain ⟨ad2, e2, h2⟩ := Kd.at_int h (j : Int) (by omega) (by omega)
  obtain rfl := (Option.some.inj e2)
  rw [Int.toNat_natCast, e, Addr.add_lit] at h2
  exact h2
theorem cp_pred (n f : Int) (A : Option Addr) (la ca : Nat) (B : Option Addr) (lb cb b : Nat) (w : World) (H : Box w b n f A la ca B lb cb) :
    PredAt Tryz.prog 135 #[.pointer (some ⟨b, 0, none⟩)] (Value.int .i64) (fun x => decide (x < 0) || decide (n ≤ x)) w := fun W x hb => by
  have c0 := (H.below hb).c0
  show Calls Tryz.prog 135 #[.int .i64 x, .pointer (some ⟨b, 0, none⟩)] W _
  by_cases h0 : x < 0
  · have e0 : decide (x < 0) = true := decide_eq_true h0
    go_enter Tryz.func135, Tryz.ntmps135
    go_wp2_with fail
    go_ret
    exact ⟨by rw [e0]; rfl, 0, rfl⟩
  · have e0 : decide (x < 0) = false := decide_eq_false h0
    obtain ⟨e, he⟩ : ∃ e, decide (n ≤ x) = e := ⟨_, rfl⟩
    go_enter Tryz.func135, Tryz.ntmps135
    go_wp2_with fail
    go_ret
    exact ⟨rfl, 0, rfl⟩
theorem cp_any (n : Int) (cpus : List Int) : (cpus.any fun x => decide (x < 0) || decide (n ≤ x)) = !cpB n cpus := by
  unfold cpB
  induction cpus with
  | nil => rfl
  | cons c l ih =>
    rw [List.any_cons, List.all_cons, ih, Bool.not_and]
    congr 1
    rw [Bool.not_and]
    congr 1
    · by_cases h : c < 0
      · rw [decide_eq_true h, decide_eq_false (by omega)]; rfl
      · rw [decide_eq_false h, decide_eq_true (by omega)]; rfl
    · by_cases h : n ≤ c
      · rw [decide_eq_true h, decide_eq_false (by omega)]; rfl
      · rw [decide_eq_false h, decide_eq_true (by omega)]; rfl
theorem contains_own (n f : Int) (A : Option Addr) (ca : Nat) (B : Option Addr) (lb cb b : Nat) (cpus : List Int) (w : World) (hr : (Kd.int .i64).C w A cpus.length cpus) (H : Box w b n f A cpus.length ca B lb cb) :
    Calls Tryz.prog 134 #[.slice A cpus.length ca, .func (.func 135) #[] #[.pointer (some ⟨b, 0, none⟩)]] w fun e w' => e = .returned (.bool (!cpB n cpus)) ∧ ∃ q, w' = w.drewN q := by
  have eg : ∀ args w, (callFunc 135 args).run Tryz.prog w = .ok (.enter 135 args) w := enters_of Tryz.func135 (by kernel_rfl) rfl
  rcases Nat.eq_zero_or_pos cpus.length with h0 | h0
  · obtain rfl : cpus = [] := List.length_eq_zero_iff.1 h0
    have hcon := AnyE.slices_ContainsFunc_empty Tryz.layContains A ca (.func (.func 135) #[] #[.pointer (some ⟨b, 0, none⟩)]) w
    change Calls Tryz.prog 134 _ _ _ at hcon
    exact hcon.mono fun _ _ ⟨he, hw⟩ => ⟨by rw [he]; rfl, 0, by rw [hw]; rfl⟩
  · obtain ⟨bk, off, rfl, hc⟩ := reads_plain hr h0
    have hcon := AnyE.slices_ContainsFunc Tryz.layContains (Value.int .i64) (fun x => decide (x < 0) || decide (n ≤ x)) 135 #[.pointer (some ⟨b, 0, none⟩)] eg bk off cpus.length ca cpus w (cp_pred n f _ _ ca B lb cb b w H) (Nat.le_refl _) hr.2.1 (fun j hj => by
      rw [hc j hj]
      congr 2
      unfold rd
      rw [Int.toNat_natCast, getElem!_pos cpus j hj, List.getD_eq_getElem?_getD, List.getElem?_eq_getElem hj]; rfl)
    change Calls Tryz.prog 134 _ _ _ at hcon
    rw [List.take_length, cp_any] at hcon
    exact hcon
set_option maxHeartbeats 4000000 in
set_option maxRecDepth 100000 in
theorem check_own (n f : Int) (A : Option Addr) (ca : Nat) (cpus : List Int) (B : Option Addr) (cb : Nat) (dist : List (List Int)) (w : World) (hr2 : Kd.C (Kd.int .i64) w A cpus.length cpus) (hca : cpus.length ≤ ca) (hr3 : Kd.C (Kd.slice 3 (Kd.int .i64)) w B dist.length dist) (hcb : dist.length ≤ cb) :
    Calls Tryz.prog 81 #[.agg #[.int .i64 n, .int .i64 f, .slice A cpus.length ca, .slice B dist.length cb]] w fun e w' => e = .returned (.int .i64 (chk n f cpus dist)) ∧ Below w.heap.size w w' := by
  have HR2 := Aside0.mk hr2
  have HR3 := Aside0.mk hr3
  clear hr2 hr3
  obtain ⟨c, hc⟩ : ∃ c, countsB n f cpus = c := ⟨_, rfl⟩
  have HC := Aside0.mk hc
  obtain ⟨p, hp⟩ : ∃ p, cpB n cpus = p := ⟨_, rfl⟩
  have HP := Aside0.mk hp
  obtain ⟨m, hm⟩ : ∃ m, mtB n.toNat dist = m := ⟨_, rfl⟩
  have HM := Aside0.mk hm
  clear hc hp hm
  cases c with
  | false =>
    have HK := Aside0.mk (show chk n f cpus dist = 3 by unfold chk; rw [HC.out]; rfl)
    go_enter Tryz.func81, Tryz.ntmps81
    go_wp2_with (first | (go_at_call 133; (with_reducible refine (topo_counts.calls n f A ca cpus B cb dist false _ (Kd.C_alloc HR2.out _) hca (Kd.C_alloc HR3.out _) hcb (by rw [counts_f, HC.out])).mono ?_); rintro e_ w2 ⟨rfl, hb⟩; have HX2 := Aside0.mk ((Box.new w n f A cpus.length ca B dist.length cb).below hb); have HB2 := Aside0.mk (below_then (below_alloc (Below.refl w.heap.size w) _) (by simp) hb); clear hb; have c0 := HX2.out.c0; have c1 := HX2.out.c1; have c2 := HX2.out.c2; have c3 := HX2.out.c3))
    go_ret
    exact ⟨by rw [HK.out]; rfl, HB2.out⟩
  | true =>
    cases p with
    | false =>
      have HK := Aside0.mk (show chk n f cpus dist = 10 by unfold chk; rw [HC.out, HP.out]; rfl)
      go_enter Tryz.func81, Tryz.ntmps81
      go_wp2_with (first | (go_at_call 133; (with_reducible refine (topo_counts.calls n f A ca cpus B cb dist true _ (Kd.C_alloc HR2.out _) hca (Kd.C_alloc HR3.out _) hcb (by rw [counts_f, HC.out])).mono ?_); rintro e_ w2 ⟨rfl, hb⟩; have HX2 := Aside0.mk ((Box.new w n f A cpus.length ca B dist.length cb).below hb); have HB2 := Aside0.mk (below_then (below_alloc (Below.refl w.heap.size w) _) (by simp) hb); clear hb; have c0 := HX2.out.c0; have c1 := HX2.out.c1; have c2 := HX2.out.c2; have c3 := HX2.out.c3) | (go_at_call 134; (with_reducible refine (contains_own n f A ca B dist.length cb w.heap.size cpus w2 (Kd.C_below HR2.out HB2.out) HX2.out).mono ?_); rintro e_ w3 ⟨he_, q, rfl⟩; go_loud (rw [HP.out] at he_); go_loud (obtain rfl := he_); go_loud (have HX3 := Aside0.mk (HX2.out.below (pw_below_drewN (Below.refl _ _) q))); have HB3 := Aside0.mk (pw_below_drewN HB2.out q); clear c0 c1 c2 c3; have c0 := HX3.out.c0; have c1 := HX3.out.c1; have c2 := HX3.out.c2; have c3 := HX3.out.c3))
      go_ret
      exact ⟨by rw [HK.out]; rfl, HB3.out⟩
    | true =>
      have hn : 1 ≤ n ∧ n ≤ 8 := by
        have h := HC.out
        unfold countsB at h
        simp only [Bool.and_eq_true, decide_eq_true_eq] at h
        omega
      obtain ⟨k, rfl⟩ : ∃ k : Nat, n = (k : Int) := ⟨n.toNat, by omega⟩
      rw [Int.toNat_natCast] at HM
      have HMT := Aside0.mk (show ∀ W : World, Kd.C (Kd.slice 3 (Kd.int .i64)) W B dist.length dist → Calls Tryz.prog 136 #[.agg #[.int .i64 k, .int .i64 f, .slice A cpus.length ca, .slice B dist.length cb]] W fun e w' => e = .returned (.bool m) ∧ Below W.heap.size W w' from fun W hW => (matrix_own k (by omega) (by omega) f A cpus.length ca B cb dist W hW hcb).mono fun _ _ ⟨he, hb⟩ => ⟨by rw [he, HM.out], hb⟩)
      have HK := Aside0.mk (show chk (k : Int) f cpus dist = if m = true then 0 else 4 by unfold chk; rw [HC.out, HP.out, Int.toNat_natCast, HM.out]; rfl)
      clear hn
      cases m with
      | false =>
        go_enter Tryz.func81, Tryz.ntmps81
        go_wp2_with (first | (go_at_call 133; (with_reducible refine (topo_counts.calls k f A ca cpus B cb dist true _ (Kd.C_alloc HR2.out _) hca (Kd.C_alloc HR3.out _) hcb (by rw [counts_f, HC.out])).mono ?_); rintro e_ w2 ⟨rfl, hb⟩; have HX2 := Aside0.mk ((Box.new w k f A cpus.length ca B dist.length cb).below hb); have HB2 := Aside0.mk (below_then (below_alloc (Below.refl w.heap.size w) _) (by simp) hb); clear hb; have c0 := HX2.out.c0; have c1 := HX2.out.c1; have c2 := HX2.out.c2; have c3 := HX2.out.c3) | (go_at_call 134; (with_reducible refine (contains_own k f A ca B dist.length cb w.heap.size cpus w2 (Kd.C_below HR2.out HB2.out) HX2.out).mono ?_); rintro e_ w3 ⟨he_, q, rfl⟩; go_loud (rw [HP.out] at he_); go_loud (obtain rfl := he_); go_loud (have HX3 := Aside0.mk (HX2.out.below (pw_below_drewN (Below.refl _ _) q))); have HB3 := Aside0.mk (pw_below_drewN HB2.out q); clear c0 c1 c2 c3; have c0 := HX3.out.c0; have c1 := HX3.out.c1; have c2 := HX3.out.c2; have c3 := HX3.out.c3) | (go_at_call 136; (with_reducible refine (HMT.out _ (Kd.C_below HR3.out HB3.out)).mono ?_); rintro e_ w4 ⟨rfl, hb⟩; have HB4 := Aside0.mk (below_then HB3.out HB3.out.size hb); clear hb))
        go_ret
        exact ⟨by rw [HK.out]; rfl, HB4.out⟩
      | true =>
        go_enter Tryz.func81, Tryz.ntmps81
        go_wp2_with (first | (go_at_call 133; (with_reducible refine (topo_counts.calls k f A ca cpus B cb dist true _ (Kd.C_alloc HR2.out _) hca (Kd.C_alloc HR3.out _) hcb (by rw [counts_f, HC.out])).mono ?_); rintro e_ w2 ⟨rfl, hb⟩; have HX2 := Aside0.mk ((Box.new w k f A cpus.length ca B dist.length cb).below hb); have HB2 := Aside0.mk (below_then (below_alloc (Below.refl w.heap.size w) _) (by simp) hb); clear hb; have c0 := HX2.out.c0; have c1 := HX2.out.c1; have c2 := HX2.out.c2; have c3 := HX2.out.c3) | (go_at_call 134; (with_reducible refine (contains_own k f A ca B dist.length cb w.heap.size cpus w2 (Kd.C_below HR2.out HB2.out) HX2.out).mono ?_); rintro e_ w3 ⟨he_, q, rfl⟩; go_loud (rw [HP.out] at he_); go_loud (obtain rfl := he_); go_loud (have HX3 := Aside0.mk (HX2.out.below (pw_below_drewN (Below.refl _ _) q))); have HB3 := Aside0.mk (pw_below_drewN HB2.out q); clear c0 c1 c2 c3; have c0 := HX3.out.c0; have c1 := HX3.out.c1; have c2 := HX3.out.c2; have c3 := HX3.out.c3) | (go_at_call 136; (with_reducible refine (HMT.out _ (Kd.C_below HR3.out HB3.out)).mono ?_); rintro e_ w4 ⟨rfl, hb⟩; have HB4 := Aside0.mk (below_then HB3.out HB3.out.size hb); clear hb))
        go_ret
        exact ⟨by rw [HK.out]; rfl, HB4.out⟩
end Go.Proofs.YtenkdmloolbdaaaGreatDoor.TZ
end
section
namespace Go.Proofs.YtenkdmloolbdaaaGreatDoor.TZ
open Go.RowKit Go.Sort Go.Proofs.YtenkdmloolbdaaaGreatDoorW.PrintWords Go.Proofs.YtenkdmloolbdaaaGreatDoorW.PrintLast Go.Proofs.YtenkdmloolbdaaaGreatDoorW.PrintMore Go.Proofs.YtenkdmloolbdaaaGreatDoor.PH
set_option linter.unusedVariables false
set_option linter.unusedSimpArgs false
theorem cmp_own (x y : Int) (W : World) : Calls Tryz.prog 204 #[.int .i64 x, .int .i64 y] W fun e w' => e = .returned (.int .i64 (Lib.compareInt x y)) ∧ w' = W := by
  have hcon := AnyG.cmp_Compare_int Tryz.layCompare x y W
  exact hcon
set_option maxHeartbeats 1000000 in
set_option maxRecDepth 100000 in
theorem or_own (b : Nat) (x y : Int) (W : World) (c0 : W.cell? ⟨b, 0, none⟩ = some (.int .i64 x)) (c1 : W.cell? ⟨b, 1, none⟩ = some (.int .i64 y)) :
    Calls Tryz.prog 226 #[.slice (some ⟨b, 0, none⟩) 2 2] W fun e w' => e = .returned (.int .i64 (if x = 0 then y else x)) ∧ w' = W := by
  have hx : x = 0 ∨ (x != 0) = true := by by_cases h : x = 0 <;> simp [h]
  have hy : y = 0 ∨ (y != 0) = true := by by_cases h : y = 0 <;> simp [h]
  rcases hx with rfl | hx
  · have hz : ((0 : Int) != 0) = false := rfl
    rcases hy with rfl | hy
    · go_enter Tryz.func226, Tryz.ntmps226
      go_wp2_with fail
      refine wp_loop_rounds 3 ?_
      rw [rounds_succ]
      go_wp2_with fail
      rw [rounds_succ]
      go_wp2_with fail
      rw [rounds_succ]
      go_wp2_with fail
      go_ret
      exact ⟨rfl, rfl⟩
    · go_enter Tryz.func226, Tryz.ntmps226
      go_wp2_with fail
      refine wp_loop_rounds 3 ?_
      rw [rounds_succ]
      go_wp2_with fail
      rw [rounds_succ]
      go_wp2_with fail
      go_ret
      exact ⟨rfl, rfl⟩
  · have hne : x ≠ 0 := by simpa using hx
    rw [if_neg hne]
    clear hne
    go_enter Tryz.func226, Tryz.ntmps226
    go_wp2_with fail
    refine wp_loop_rounds 3 ?_
    rw [rounds_succ]
    go_wp2_with fail
    go_ret
    exact ⟨rfl, rfl⟩
theorem new_cell (W : World) (cs : Array Value) (t : TypeId) (i : Nat) : ((W.alloc (.cells cs t)).drew).cell? ⟨W.drew.heap.size, i, none⟩ = cs[i]? := by
  show (W.alloc (.cells cs t)).cell? ⟨W.heap.size, i, none⟩ = _
  simp only [World.cell?, heap_alloc_new]; rfl
/-- What the closure tells. -/
def cfv (dx dy x y : Int) : Int := if Lib.compareInt dx dy = 0 then Lib.compareInt x y else Lib.compareInt dx dy
set_option maxHeartbeats 1000000 in
set_option maxRecDepth 100000 in
theorem clos_own (p rb ro m c x y : Nat) (dx dy : Int) (W : World) (hx : x < m) (hy : y < m) (hp : W.cell? ⟨p, 0, none⟩ = some (.slice (some ⟨rb, ro, none⟩) m c)) (q0 : W.cell? ⟨rb, ro + x, none⟩ = some (.int .i64 dx)) (q1 : W.cell? ⟨rb, ro + y, none⟩ = some (.int .i64 dy)) :
    Calls Tryz.prog 225 #[.int .i64 x, .int .i64 y, .pointer (some ⟨p, 0, none⟩)] W fun e w' => e = .returned (.int .i64 (cfv dx dy x y)) ∧ ∃ q os, w' = grow (W.drewN q) os := by
  have hx0 : (0 : Int) ≤ (x : Int) := by omega
  have hy0 : (0 : Int) ≤ (y : Int) := by omega
  have hxI : (x : Int) < (m : Int) := by omega
  have hyI : (y : Int) < (m : Int) := by omega
  have K1 := Aside0.mk (fun w => cmp_own dx dy w)
  have K2 := Aside0.mk (fun w => cmp_own x y w)
  unfold cfv
  obtain ⟨a, ha⟩ : ∃ a, Lib.compareInt dx dy = a := ⟨_, rfl⟩
  obtain ⟨b, hb⟩ : ∃ b, Lib.compareInt (x : Int) (y : Int) = b := ⟨_, rfl⟩
  rw [ha, hb]
  rw [ha] at K1
  rw [hb] at K2
  have K3 := Aside0.mk (fun bb w h0 h1 => or_own bb a b w h0 h1)
  obtain ⟨r, hr⟩ : ∃ r, (if a = 0 then b else a) = r := ⟨_, rfl⟩
  rw [hr]
  rw [hr] at K3
  clear ha hb hr
  go_enter Tryz.func225, Tryz.ntmps225
  go_upto_region 1 with fail
  refine st_ 15 (fun w' => w'.cell? ⟨p, 0, none⟩ = some (.slice (some ⟨rb, ro, none⟩) m c) ∧ w'.cell? ⟨rb, ro + x, none⟩ = some (.int .i64 dx) ∧ w'.cell? ⟨rb, ro + y, none⟩ = some (.int .i64 dy)) [12, 13] ⟨hp, q0, q1⟩ (fun hHeld => ?_)
  refine pu_ 1 7 2 ?_
  refine pu_ 5 11 34 ?_
  refine pu_ 9 15 546 ?_
  refine pu_ 10 16 1570 ?_
  refine ta_ 0 6 1571 hHeld ?_
  refine pu_ 2 8 1575 ?_
  refine ta_ 3 9 1583 hHeld ?_
  refine ta_ 4 10 1599 hHeld ?_
  refine pu_ 6 12 1663 ?_
  refine ta_ 7 13 1791 hHeld ?_
  refine one_ (i := 8) (N := some 14) (bz 15 2047) rfl rfl (by kernel_rfl) (by decide) (fun K hK => ?_)
  refine goes_ Tryz.func204 (by kernel_rfl) rfl #[.int .i64 dx, .int .i64 dy] (by rfl) rfl rfl (by simp only [List.map_toArray, List.map_cons, List.map_nil]; rfl) ?_
  with_reducible refine (K1.out _).mono ?_
  rintro e_ w3 ⟨rfl, rfl⟩
  refine ⟨_, rfl, ?_⟩
  refine hK.out _ _ ⟨hp, q0, q1⟩ (fun hHeld => ?_)
  clear hK K
  refine no_ 14 ?_
  refine one_ (i := 11) (N := some 17) (bz 15 4095) rfl rfl (by kernel_rfl) (by decide) (fun K hK => ?_)
  refine goes_ Tryz.func204 (by kernel_rfl) rfl #[.int .i64 x, .int .i64 y] (by rfl) rfl rfl (by simp only [List.map_toArray, List.map_cons, List.map_nil]; rfl) ?_
  with_reducible refine (K2.out _).mono ?_
  rintro e_ w3 ⟨rfl, rfl⟩
  refine ⟨_, rfl, ?_⟩
  refine hK.out _ _ ⟨hp, q0, q1⟩ (fun hHeld => ?_)
  clear hK K
  refine no_ 17 ?_
  refine last_ (i := 12) (N := some 18) (bz 15 8191) rfl rfl (by kernel_rfl) (by decide) (fun K hK => ?_)
  refine va_ ?_
  refine hK.out _ _ ?_
  clear hK K
  refine no_ 18 ?_
  refine last_ (i := 13) (N := some 19) (bz 15 16383) rfl rfl (by kernel_rfl) (by decide) (fun K hK => ?_)
  refine goes_ Tryz.func226 (by kernel_rfl) rfl #[.slice (some ⟨W.drew.heap.size, 0, none⟩) 2 2] (by rfl) rfl rfl (by simp only [List.map_toArray, List.map_cons, List.map_nil]; rfl) ?_
  with_reducible refine (K3.out W.drew.heap.size _ (new_cell W _ _ _) (new_cell W _ _ _)).mono ?_
  rintro e_ w3 ⟨rfl, rfl⟩
  refine ⟨_, rfl, ?_⟩
  refine hK.out _ _ ?_
  clear hK K
  refine no_ 19 ?_
  refine pu_ 14 5 32767 ?_
  refine done_ (by kernel_rfl) ?_
  go_wp2_with fail
  go_ret
  exact ⟨rfl, 1, _, by rw [alloc_eq_grow]; rfl⟩
end Go.Proofs.YtenkdmloolbdaaaGreatDoor.TZ
end
section
namespace Go.Proofs.YtenkdmloolbdaaaGreatDoor.TZ
open Go.RowKit Go.Sort Go.Proofs.YtenkdmloolbdaaaGreatDoorW.PrintWords Go.Proofs.YtenkdmloolbdaaaGreatDoorW.PrintLast Go.Proofs.YtenkdmloolbdaaaGreatDoorW.PrintMore Go.Proofs.YtenkdmloolbdaaaGreatDoor.PH
set_option linter.unusedVariables false
set_option linter.unusedSimpArgs false
section
variable {α : Type} (k : α → Nat)
def bucket (lo m : Nat) (l : List α) : List α := (List.range' lo m).flatMap fun d => l.filter fun x => decide (k x = d)
theorem bucket_succ (lo m : Nat) (l : List α) : bucket k lo (m + 1) l = (l.filter fun x => decide (k x = lo)) ++ bucket k (lo + 1) m l := by
  unfold bucket; rw [List.range'_succ, List.flatMap_cons]
theorem bucket_rest (lo lo' m : Nat) (h : lo < lo') (l : List α) : bucket k lo' m (l.filter fun x => !decide (k x = lo)) = bucket k lo' m l := by
  unfold bucket
  rw [List.flatMap_def, List.flatMap_def]
  congr 1
  apply List.map_congr_left
  intro d hd
  rw [List.filter_filter]
  apply List.filter_congr
  intro x _
  have hd' := (List.mem_range'_1.1 hd).1
  by_cases h1 : k x = d
  · rw [decide_eq_true h1, Bool.true_and, decide_eq_false (by omega)]; rfl
  · rw [decide_eq_false h1, Bool.false_and]
theorem bucket_perm : ∀ (m lo : Nat) (l : List α), (∀ x ∈ l, lo ≤ k x ∧ k x < lo + m) → List.Perm (bucket k lo m l) l := by
  intro m
  induction m with
  | zero =>
    intro lo l h
    cases l with
    | nil => exact List.Perm.refl _
    | cons x l => have := h x (List.mem_cons_self ..); omega
  | succ m ih =>
    intro lo l h
    rw [bucket_succ, ← bucket_rest k lo (lo + 1) m (Nat.lt_succ_self _)]
    refine List.Perm.trans (List.Perm.append_left _ (ih (lo + 1) (l.filter fun x => !decide (k x = lo)) ?_)) (List.filter_append_perm _ _)
    intro x hx
    obtain ⟨h1, h2⟩ := List.mem_filter.1 hx
    have := h x h1
    have h3 : k x ≠ lo := by simpa using h2
    omega
theorem bucket_mem (lo m : Nat) (l : List α) (x : α) (h : x ∈ bucket k lo m l) : lo ≤ k x ∧ x ∈ l := by
  unfold bucket at h
  obtain ⟨d, h1, h2⟩ := List.mem_flatMap.1 h
  obtain ⟨h3, h4⟩ := List.mem_filter.1 h2
  have := of_decide_eq_true h4
  have := (List.mem_range'_1.1 h1).1
  exact ⟨by omega, h3⟩
theorem bucket_sorted (R : α → α → Prop) (hlt : ∀ x y, k x < k y → R x y) (l : List α) (hl : ∀ d, (l.filter fun x => decide (k x = d)).Pairwise R) : ∀ (m lo : Nat), (bucket k lo m l).Pairwise R := by
  intro m
  induction m with
  | zero => intro lo; exact List.Pairwise.nil
  | succ m ih =>
    intro lo
    rw [bucket_succ, List.pairwise_append]
    refine ⟨hl lo, ih (lo + 1), ?_⟩
    intro x hx y hy
    have h1 := of_decide_eq_true (List.mem_filter.1 hx).2
    have h2 := (bucket_mem k _ _ _ _ hy).1
    exact hlt x y (by omega)
end
/-- The order of nodes, as node a has it: as places. -/
def ordF (dist : List (List Int)) (a n : Nat) : List (Fin n) := bucket (fun b : Fin n => (dd dist a b.val).toNat) 10 246 (List.finRange n)
/-- The same as numbers. -/
def ordL (dist : List (List Int)) (a n : Nat) : List Int := (ordF dist a n).map fun b => (b.val : Int)
def cfo (dist : List (List Int)) (a n : Nat) (x y : Fin n) : Int := cfv (dd dist a x.val) (dd dist a y.val) x.val y.val
theorem cfv_lt (dx dy x y : Int) : cfv dx dy x y < 0 ↔ dx < dy ∨ (dx = dy ∧ x < y) := by
  unfold cfv Lib.compareInt
  by_cases h1 : dx < dy
  · simp [h1]
  · by_cases h2 : dx > dy
    · have : ¬ dx = dy := by omega
      simp [h1, h2, this]
    · have h3 : dx = dy := by omega
      subst h3
      by_cases h4 : x < y
      · simp [h4]
      · by_cases h5 : x > y
        · simp [h4, h5]
        · simp [h4, h5]
theorem cfo_lt (dist : List (List Int)) (a n : Nat) (x y : Fin n) : ltOf (cfo dist a n) x y = decide (dd dist a x.val < dd dist a y.val ∨ (dd dist a x.val = dd dist a y.val ∧ x.val < y.val)) := by
  unfold ltOf cfo
  rw [decide_eq_decide, cfv_lt]
  omega
theorem cfo_swo (dist : List (List Int)) (a n : Nat) : SWO (ltOf (cfo dist a n)) where
  irrefl x := by rw [cfo_lt]; simp
  trans x y z h1 h2 := by rw [cfo_lt, decide_eq_true_eq] at *; omega
  ntrans x y z h1 h2 := by rw [cfo_lt, decide_eq_false_iff_not] at *; omega
theorem cfo_tot (dist : List (List Int)) (a n : Nat) : ∀ x y, (ltOf (cfo dist a n)) x y = false → (ltOf (cfo dist a n)) y x = false → x = y := by
  intro x y h1 h2
  rw [cfo_lt, decide_eq_false_iff_not] at h1 h2
  apply Fin.ext
  omega
/-- All distances of node a lie between ten and 255. -/
def Far (dist : List (List Int)) (a n : Nat) : Prop := ∀ b, b < n → 10 ≤ dd dist a b ∧ dd dist a b ≤ 255
theorem ordF_perm (dist : List (List Int)) (a n : Nat) (h : Far dist a n) : List.Perm (ordF dist a n) (List.finRange n) := by
  unfold ordF
  apply bucket_perm
  intro x _
  have := h x.val x.isLt
  omega
theorem ordF_sort (dist : List (List Int)) (a n : Nat) (h : Far dist a n) : ((List.finRange n).mergeSort fun x y => !(ltOf (cfo dist a n)) y x) = ordF dist a n := by
  refine List.Perm.eq_of_pairwise (le := fun x y => (!(ltOf (cfo dist a n)) y x) = true) ?_ ?_ ?_ ((List.mergeSort_perm _ _).trans (ordF_perm dist a n h).symm)
  · intro x y _ _ h1 h2
    exact cfo_tot dist a n x y (by simpa using h2) (by simpa using h1)
  · apply List.pairwise_mergeSort
    · intro x y z h1 h2
      rw [Bool.not_eq_true'] at *
      exact (cfo_swo dist a n).ntrans _ _ _ h2 h1
    · intro x y
      rw [cfo_lt, cfo_lt]
      by_cases h1 : dd dist a y.val < dd dist a x.val ∨ dd dist a y.val = dd dist a x.val ∧ y.val < x.val
      · rw [decide_eq_true h1, decide_eq_false (by omega)]; rfl
      · rw [decide_eq_false h1]; rfl
  · unfold ordF
    apply bucket_sorted
    · intro x y hxy
      rw [cfo_lt, Bool.not_eq_true', decide_eq_false_iff_not]
      omega
    · intro d
      have hp : (List.finRange n).Pairwise (fun x y => x < y) := List.pairwise_lt_finRange n
      refine List.Pairwise.imp_of_mem ?_ (hp.filter _)
      intro x y hx hy hxy
      have h1 := of_decide_eq_true (List.mem_filter.1 hx).2
      have h2 := of_decide_eq_true (List.mem_filter.1 hy).2
      rw [cfo_lt, Bool.not_eq_true', decide_eq_false_iff_not]
      have h3 := h x.val x.isLt
      have h4 := h y.val y.isLt
      have : x.val < y.val := hxy
      omega
theorem ordL_len (dist : List (List Int)) (a n : Nat) (h : Far dist a n) : (ordL dist a n).length = n := by
  unfold ordL
  rw [List.length_map, (ordF_perm dist a n h).length_eq, List.length_finRange]
end Go.Proofs.YtenkdmloolbdaaaGreatDoor.TZ
end
section
namespace Go.Proofs.YtenkdmloolbdaaaGreatDoor.TZ
open Go.RowKit Go.Sort Go.Proofs.YtenkdmloolbdaaaGreatDoorW.PrintWords Go.Proofs.YtenkdmloolbdaaaGreatDoorW.PrintLast Go.Proofs.YtenkdmloolbdaaaGreatDoorW.PrintMore Go.Proofs.YtenkdmloolbdaaaGreatDoor.PH
set_option linter.unusedVariables false
set_option linter.unusedSimpArgs false
theorem putRow_map {α : Type} [Inhabited α] (f : α → Int) (w : World) (g : Nat) (l : List α) : putRow (fun x => Value.int .i64 (f x)) w g 0 l.toArray = putRow (Value.int .i64) w g 0 (l.map f).toArray := by
  unfold putRow
  congr 1
  funext c
  unfold putCells
  apply Array.ext
  · simp
  · intro i h1 h2
    simp only [Array.getElem_mapIdx, List.size_toArray, List.length_map, Nat.sub_zero, Nat.zero_le, Nat.zero_add, true_and]
    by_cases h : i < l.length
    · rw [if_pos h, if_pos h]
      rw [getElem!_pos l.toArray i (by simpa using h), getElem!_pos (l.map f).toArray i (by simpa using h)]
      simp
    · rw [if_neg h, if_neg h]
def ids (n : Nat) : List Int := (List.finRange n).map fun b => (b.val : Int)
set_option maxHeartbeats 1000000 in
theorem sort_own (n a p rb ro cc g cap : Nat) (cur : Array Value) (dist : List (List Int)) (W : World) (hn : 1 ≤ n) (h8 : n ≤ 8) (hfar : Far dist a n) (hg : W.heap[g]? = some (.cells cur 3 (0, 0))) (ht : cur.toList.take n = (ids n).map (Value.int .i64))
    (hp : W.cell? ⟨p, 0, none⟩ = some (.slice (some ⟨rb, ro, none⟩) n cc)) (hpg : p ≠ g) (hpl : p < W.heap.size) (hrow : ∀ j, j < n → W.cell? ⟨rb, ro + j, none⟩ = some (.int .i64 (dd dist a j))) (hrb : rb ≠ g) (hrl : rb < W.heap.size) :
    Calls Tryz.prog 224 #[.slice (some ⟨g, 0, none⟩) n cap, .func (.func 225) #[] #[.pointer (some ⟨p, 0, none⟩)]] W fun e w' => e = .returned (.tuple #[]) ∧ ∃ m os, w' = grow (putRow (Value.int .i64) (Sort.ahead W m) g 0 (ordL dist a n).toArray) os := by
  haveI : Inhabited (Fin n) := ⟨⟨0, hn⟩⟩
  have eg : ∀ args w, (callFunc 225 args).run Tryz.prog w = .ok (.enter 225 args) w := enters_of Tryz.func225 (by kernel_rfl) rfl
  have hgl : g < W.heap.size := (Array.getElem?_eq_some_iff.1 hg).1
  have hsz : (List.finRange n).toArray.size = n := by simp
  have hH0 : Holds (Value.int .i64) W g 0 (ids n).toArray := Go.holds_of_blockI hg (by unfold ids; rw [List.length_map, List.length_finRange]; exact ht)
  have hH : Holds (fun b : Fin n => Value.int .i64 (b.val : Int)) W g 0 (List.finRange n).toArray := by
    intro j hj
    have hj' : j < n := by rw [hsz] at hj; exact hj
    obtain ⟨h1, h2⟩ := hH0 j (by unfold ids; simpa using hj')
    refine ⟨?_, h2⟩
    rw [h1]
    congr 2
    rw [getElem!_pos (ids n).toArray j (by unfold ids; simpa using hj'), getElem!_pos (List.finRange n).toArray j (by simpa using hj')]
    unfold ids
    simp
  have hcon := Any.slices_SortFunc_total Tryz.laySort (fun b : Fin n => Value.int .i64 (b.val : Int)) (fun _ => rfl) (cfo dist a n) (cfo_swo dist a n) 225 #[.pointer (some ⟨p, 0, none⟩)] g 0 cap (List.finRange n).toArray W eg ?_ hH hgl (by rw [hsz]; omega) (cfo_tot dist a n)
  · rw [hsz] at hcon
    change Calls Tryz.prog 224 _ _ _ at hcon
    refine hcon.mono ?_
    rintro e w' ⟨he, m, os, hw⟩
    refine ⟨he, m, os, ?_⟩
    rw [hw, show (List.finRange n).toArray.toList = List.finRange n from rfl, ordF_sort dist a n hfar]
    unfold sortWorld ordL
    rw [putRow_map]
  · intro m os dk hdk x y
    refine (clos_own p rb ro n cc x.val y.val (dd dist a x.val) (dd dist a y.val) _ x.isLt y.isLt ?_ ?_ ?_).mono ?_
    · unfold sortWorld
      rw [cell?_grow _ _ _ (by rw [size_putRow]; exact hpl), cell?_putRow_other _ _ g 0 _ _ (Or.inl hpg)]
      exact hp
    · unfold sortWorld
      rw [cell?_grow _ _ _ (by rw [size_putRow]; exact hrl), cell?_putRow_other _ _ g 0 _ _ (Or.inl hrb)]
      exact hrow x.val x.isLt
    · unfold sortWorld
      rw [cell?_grow _ _ _ (by rw [size_putRow]; exact hrl), cell?_putRow_other _ _ g 0 _ _ (Or.inl hrb)]
      exact hrow y.val y.isLt
    · rintro e w' ⟨he, q, os', hw⟩
      exact ⟨he, q, os', hw⟩
end Go.Proofs.YtenkdmloolbdaaaGreatDoor.TZ
end
section
namespace Go.Proofs.YtenkdmloolbdaaaGreatDoor.TZ
open Go.RowKit Go.Sort Go.Proofs.YtenkdmloolbdaaaGreatDoorW.PrintWords Go.Proofs.YtenkdmloolbdaaaGreatDoorW.PrintLast Go.Proofs.YtenkdmloolbdaaaGreatDoorW.PrintMore Go.Proofs.YtenkdmloolbdaaaGreatDoor.PH
set_option linter.unusedVariables false
set_option linter.unusedSimpArgs false
/-- What is told of a machine and a node. -/
def erN (n f : Int) (cpus : List Int) (dist : List (List Int)) (node : Int) : Int := if chk n f cpus dist = 0 then (if node < 0 ∨ n ≤ node then 10 else 0) else chk n f cpus dist
theorem chk_zero {n f : Int} {cpus : List Int} {dist : List (List Int)} (h : chk n f cpus dist = 0) : ∃ k : Nat, n = (k : Int) ∧ 1 ≤ k ∧ k ≤ 8 ∧ dist.length = k ∧ (∀ a, a < k → (dist.getD a []).length = k) ∧ (∀ a, a < k → ∀ b, b < k → fit dist a b) := by
  unfold chk at h
  by_cases h1 : countsB n f cpus = true
  · rw [if_pos h1] at h
    by_cases h2 : cpB n cpus = true
    · rw [if_pos h2] at h
      by_cases h3 : mtB n.toNat dist = true
      · have hn : 1 ≤ n ∧ n ≤ 8 := by
          unfold countsB at h1
          simp only [Bool.and_eq_true, decide_eq_true_eq] at h1
          omega
        obtain ⟨k, rfl⟩ : ∃ k : Nat, n = (k : Int) := ⟨n.toNat, by omega⟩
        rw [Int.toNat_natCast] at h3
        refine ⟨k, rfl, by omega, by omega, ?_⟩
        have hl : lensB k dist = true := by
          rcases Bool.eq_false_or_eq_true (lensB k dist) with e | e
          · exact e
          · rw [mt_no_lens k dist e] at h3; cases h3
        obtain ⟨l1, l2⟩ := lens_at hl
        refine ⟨l1, l2, fun a ha b hb => ?_⟩
        by_cases hf : dd dist a b = dd dist b a ∧ fit dist a b
        · exact hf.2
        · rw [mt_no k dist a b ha hb hf] at h3; cases h3
      · rw [if_neg h3] at h; omega
    · rw [if_neg h2] at h; omega
  · rw [if_neg h1] at h; omega
theorem fit_far {n : Nat} {dist : List (List Int)} (h : ∀ a, a < n → ∀ b, b < n → fit dist a b) (a : Nat) (ha : a < n) : Far dist a n := by
  intro b hb
  have := h a ha b hb
  unfold fit at this
  split at this <;> omega
theorem ids_range (n : Nat) : ids n = (List.range n).map fun (b : Nat) => (b : Int) := by
  unfold ids
  apply List.ext_getElem
  · simp
  · intro i h1 h2; simp
theorem below_less0 (w w' : World) (o : Obj) (h : Below (w.alloc o).heap.size (w.alloc o) w') : Below w.heap.size w w' := below_then (below_alloc (Below.refl w.heap.size w) o) (by simp) h
set_option maxHeartbeats 2000000 in
set_option maxRecDepth 100000 in
theorem order_bad (n f : Int) (A : Option Addr) (ca : Nat) (cpus : List Int) (B : Option Addr) (cb : Nat) (dist : List (List Int)) (node : Int) (w : World) (hr2 : Kd.C (Kd.int .i64) w A cpus.length cpus) (hca : cpus.length ≤ ca) (hr3 : Kd.C (Kd.slice 3 (Kd.int .i64)) w B dist.length dist) (hcb : dist.length ≤ cb) (hbad : erN n f cpus dist node ≠ 0) :
    Calls Tryz.prog 199 #[.agg #[.int .i64 n, .int .i64 f, .slice A cpus.length ca, .slice B dist.length cb], .int .i64 node] w fun e w' => e = .returned (.tuple #[.slice none 0 0, .int .i64 (erN n f cpus dist node)]) ∧ Below w.heap.size w w' := by
  have HCK := Aside0.mk (fun (W : World) h2 h3 => check_own n f A ca cpus B cb dist W h2 hca h3 hcb)
  have HR2 := Aside0.mk hr2
  have HR3 := Aside0.mk hr3
  clear hr2 hr3
  obtain ⟨c, hc⟩ : ∃ c, chk n f cpus dist = c := ⟨_, rfl⟩
  rw [hc] at HCK
  by_cases h0 : c = 0
  · have hne : erN n f cpus dist node = 10 ∧ (node < 0 ∨ n ≤ node) := by
      unfold erN at hbad ⊢
      rw [hc, if_pos h0] at hbad ⊢
      by_cases hh : node < 0 ∨ n ≤ node
      · rw [if_pos hh]; exact ⟨rfl, hh⟩
      · rw [if_neg hh] at hbad; exact absurd rfl hbad
    rw [hne.1]
    have hor := hne.2
    subst h0
    clear hbad hne hc
    by_cases hneg : node < 0
    · have d0 : decide (node < 0) = true := decide_eq_true hneg
      go_enter Tryz.func199, Tryz.ntmps199
      go_wp2_with (first | (go_at_call 81; (with_reducible refine (HCK.out _ (Kd.C_alloc HR2.out _) (Kd.C_alloc HR3.out _)).mono ?_); rintro e_ w2 ⟨rfl, hb⟩; have HB2 := Aside0.mk (below_less0 _ _ _ hb); have HX2 := Aside0.mk ((Box.new w n f A cpus.length ca B dist.length cb).below hb); clear hb; have c0 := HX2.out.c0))
      go_ret2
      exact ⟨rfl, HB2.out⟩
    · have d0 : decide (node < 0) = false := decide_eq_false hneg
      have d1 : decide (n ≤ node) = true := decide_eq_true (by omega)
      clear hor
      go_enter Tryz.func199, Tryz.ntmps199
      go_wp2_with (first | (go_at_call 81; (with_reducible refine (HCK.out _ (Kd.C_alloc HR2.out _) (Kd.C_alloc HR3.out _)).mono ?_); rintro e_ w2 ⟨rfl, hb⟩; have HB2 := Aside0.mk (below_less0 _ _ _ hb); have HX2 := Aside0.mk ((Box.new w n f A cpus.length ca B dist.length cb).below hb); clear hb; have c0 := HX2.out.c0))
      go_ret2
      exact ⟨rfl, HB2.out⟩
  · have hne : erN n f cpus dist node = c := by unfold erN; rw [hc, if_neg h0]
    rw [hne]
    have hb0 : (c != 0) = true := by simpa using h0
    clear hbad hne hc h0
    go_enter Tryz.func199, Tryz.ntmps199
    go_wp2_with (first | (go_at_call 81; (with_reducible refine (HCK.out _ (Kd.C_alloc HR2.out _) (Kd.C_alloc HR3.out _)).mono ?_); rintro e_ w2 ⟨rfl, hb⟩; have HB2 := Aside0.mk (below_less0 _ _ _ hb); clear hb))
    go_ret2
    exact ⟨rfl, HB2.out⟩
theorem below_of_grown {w w' : World} {g B : Nat} (h : w.grownBy w' (some g)) (hB : B ≤ g) (hs : B ≤ w.heap.size) : RowKit.Below B w w' :=
  ⟨h.os, h.tape, h.output, h.size, fun k hk => h.block k (by omega) (by simp; omega)⟩
/-- The numbers ahead of i. -/
def upto (i : Nat) : List Int := (List.range i).map fun (b : Nat) => (b : Int)
theorem upto_len (i : Nat) : (upto i).length = i := by unfold upto; simp
theorem upto_succ (i : Nat) : upto (i + 1) = upto i ++ [(i : Int)] := by unfold upto; rw [List.range_succ, List.map_append]; rfl
def RelO (w : World) (n : Nat) (v25 v7 : Value) (wr : World) : Prop :=
  ∃ i : Nat, v25 = .int .i64 i ∧ i ≤ n ∧ wr.ownsRow w.heap.size 3 1 v7 (upto i).length (nums .i64 (upto i)) ∧ Below w.heap.size w wr
set_option maxHeartbeats 4000000 in
set_option maxRecDepth 100000 in
theorem order_good (n a : Nat) (f : Int) (A : Option Addr) (ca : Nat) (cpus : List Int) (B : Option Addr) (cb : Nat) (dist : List (List Int)) (w : World) (hr2 : Kd.C (Kd.int .i64) w A cpus.length cpus) (hca : cpus.length ≤ ca) (hr3 : Kd.C (Kd.slice 3 (Kd.int .i64)) w B dist.length dist) (hcb : dist.length ≤ cb) (hck : chk n f cpus dist = 0) (hlt : a < n) :
    Calls Tryz.prog 199 #[.agg #[.int .i64 n, .int .i64 f, .slice A cpus.length ca, .slice B dist.length cb], .int .i64 a] w fun e w' => ∃ v, e = .returned (.tuple #[v, .int .i64 0]) ∧ w'.ownsRow w.heap.size 3 1 v (ordL dist a n).length (nums .i64 (ordL dist a n)) ∧ Below w.heap.size w w' := by
  obtain ⟨k, hk, h1, h8, hdl, hrl, hfit⟩ := chk_zero hck
  obtain rfl : n = k := by omega
  clear hk
  have HFAR := Aside0.mk (fit_far hfit a hlt)
  have HROW := Aside0.mk (hrl a hlt)
  have HDL := Aside0.mk hdl
  have HCK := Aside0.mk (fun (W : World) h2 h3 => hck ▸ check_own n f A ca cpus B cb dist W h2 hca h3 hcb)
  have HR2 := Aside0.mk hr2
  have HR3 := Aside0.mk hr3
  clear hr2 hr3 hck hfit hrl hdl
  have d0 : decide ((a : Int) < 0) = false := decide_eq_false (by omega)
  have d1 : decide (n ≤ a) = false := decide_eq_false (by omega)
  have a0 : (0 : Int) ≤ (a : Int) := by omega
  have aI : (a : Int) < (n : Int) := by omega
  go_enter Tryz.func199, Tryz.ntmps199
  go_upto_region 2 with (first | (go_at_call 81; (with_reducible refine (HCK.out _ (Kd.C_alloc HR2.out _) (Kd.C_alloc HR3.out _)).mono ?_); rintro e_ w2 ⟨rfl, hb⟩; have HB2 := Aside0.mk (below_less0 _ _ _ hb); have HX2 := Aside0.mk ((Box.new w n f A cpus.length ca B dist.length cb).below hb); clear hb; have c0 := HX2.out.c0))
  obtain ⟨b, hbw⟩ : ∃ b, w.heap.size = b := ⟨_, rfl⟩
  have HBW := Aside0.mk hbw
  rw [hbw] at HX2 c0 ⊢
  clear hbw
  have H0 := Aside0.mk (show RelO w2 n (.int .i64 0) (.slice none 0 0) w2 from ⟨0, rfl, Nat.zero_le _, own_nil _ _ _ _, Below.refl _ _⟩)
  go_wp2_with fail
  go_loopw [25, 7, 8] (fun v25 v7 _ wr => RelO w2 n v25 v7 wr) (fun v25 _ _ _ => n - (intOf v25).toNat)
  case atStart => exact H0.out
  case round =>
    clear H0
    obtain ⟨i, rfl, hi, hO, hB⟩ := hrel
    have HO := Aside0.mk hO
    have HB := Aside0.mk hB
    clear hO hB
    by_cases hin : i < n
    · have hib : decide (i < n) = true := decide_eq_true hin
      clear d0 d1 a0 aI c0
      go_wp2_with (first | ((with_reducible refine gate_builtin (b := .append) (xs := #[.tmp 28, .tmp 30]) rfl ?_); at_builtin; refine print_append_num (w0 := w2) w2.heap.size rfl (.tmp 28) (.tmp 30) 34 3 .i64 8 rfl Tryz.underlying34 info3 (by decide) u7 (upto i) (i : Int) rfl rfl HO.out HB.out HB.out.size (by rw [upto_len]; omega) ?_; intro v1 w1 ho hb hg hat; rw [← upto_succ] at ho; have HO2 := Aside0.mk ho; have HB3 := Aside0.mk hb; clear ho hb hg hat))
      go_roundw
      case rel => exact ⟨i + 1, by go_num, by omega, HO2.out, HB3.out⟩
      case measure => simp [intOf]; omega
    · obtain rfl : i = n := by omega
      have hib : decide (i < i) = false := decide_eq_false hin
      have c3 := (HX2.out.below HB.out).c3
      rw [HDL.out] at c3
      obtain ⟨ad, A0, cc, rfl, p0, hcc, hrd⟩ := at_L1 HR3.out (a : Int) a0 (by rw [HDL.out]; omega)
      rw [Int.toNat_natCast] at p0
      rw [rdl] at p0 hcc hrd
      rw [HROW.out] at p0 hcc hrd
      have p0 := pw_cell_below HB.out (pw_cell_below HB2.out p0)
      have HRD := Aside0.mk hrd
      clear c0 d0 d1 hrd
      obtain ⟨hlen, hor⟩ := HO.out
      rw [upto_len] at hor
      rcases hor with ⟨_, h0⟩ | ⟨g, cap, cur, rfl, hgb, hgh, hnc, hcm, hcs, htk⟩
      · omega
      have HGB := Aside0.mk hgb
      have HGH := Aside0.mk hgh
      have HNC := Aside0.mk hnc
      have HCM := Aside0.mk hcm
      have HCS := Aside0.mk hcs
      have HTK := Aside0.mk htk
      clear hgb hgh hnc hcm hcs htk hlen HO
      obtain ⟨rb, ro, rfl, hcell⟩ := reads_plain HRD.out h1
      have HCELL := Aside0.mk hcell
      have HRB := Aside0.mk (World.block_lt_of_cell? w _ (hcell 0 h1))
      clear hcell
      go_upto_region 13 with fail
      obtain ⟨W, hW⟩ : ∃ W, wr.alloc (.cells #[.slice (some ⟨rb, ro, none⟩) i cc] 34) = W := ⟨_, rfl⟩
      have HWB := Aside0.mk (show RowKit.Below wr.heap.size wr W from hW ▸ below_alloc (RowKit.Below.refl _ _) _)
      have HWC := Aside0.mk (show W.cell? ⟨wr.heap.size, 0, none⟩ = some (.slice (some ⟨rb, ro, none⟩) i cc) by rw [← hW]; simp only [World.cell?, heap_alloc_new]; rfl)
      have HWS := Aside0.mk (show wr.heap.size < W.heap.size by rw [← hW, World.size_alloc]; omega)
      rw [hW]
      have hz1 := HB2.out.size
      have hz2 := HB.out.size
      have hz3 := HWB.out.size
      have hgl : g < wr.heap.size := (Array.getElem?_eq_some_iff.1 HGH.out).1
      have hw2g := HGB.out
      have hrb : rb < w.heap.size := HRB.out
      have HGW := Aside0.mk (show W.heap[g]? = some (.cells cur 3 (0, 0)) from (HWB.out.block g hgl).trans HGH.out)
      have HALL := Aside0.mk (show RowKit.Below w.heap.size w W from below_then HB2.out hz1 (below_then HB.out hz2 HWB.out))
      have SORT := Aside0.mk (sort_own i a wr.heap.size rb ro cc g cap cur dist W h1 h8 HFAR.out HGW.out (by rw [ids_range]; have := HTK.out; rw [Nat.mul_one] at this; exact this) HWC.out (by omega) HWS.out (fun j hj => by
        have := HALL.out.cell (p := ⟨rb, ro + j, none⟩) HRB.out
        rw [this, HCELL.out j hj, ← rdl, rd_dd]) (by omega) (by omega))
      have hll : (ordL dist a i).length = (ids i).length := by rw [ordL_len dist a i HFAR.out]; unfold ids; simp
      have hil : (ids i).length = i := by unfold ids; simp
      have HOWN := Aside0.mk (fun m os => Go.ownsRow_sortedI (w := W) (base := w.heap.size) (cap := cap) (n := m) (os := os) (ss := ids i) (ts := ordL dist a i) hll (by omega) HGW.out (by rw [hil]; exact HNC.out) HCM.out HCS.out)
      have HGR := Aside0.mk (fun m os => Go.grownBy_sortedI (w := W) (g := g) (n := m) (os := os) (ordL dist a i).toArray)
      rw [hil] at HOWN
      have HLL := Aside0.mk (hll.trans hil)
      have HBF := Aside0.mk (show w.heap.size ≤ g ∧ w.heap.size ≤ W.heap.size by omega)
      clear hll hil HGB HGH HNC HCM HCS HTK hz1 hz2 hz3 hgl hw2g hrb HWB HWC HWS HGW hW HRB HCELL c3 p0
      go_wp2_with (first | (go_at_call 224; (with_reducible refine SORT.out.mono ?_); rintro e_ w4 ⟨rfl, m, os, hw4⟩; have HW4 := Aside0.mk hw4; clear hw4))
      go_ret2
      refine ⟨_, rfl, ?_, ?_⟩
      · rw [HLL.out, HW4.out]; exact HOWN.out m os
      · rw [HW4.out]; exact HALL.out.trans (below_of_grown (HGR.out m os) HBF.out.1 HBF.out.2)
end Go.Proofs.YtenkdmloolbdaaaGreatDoor.TZ
end
