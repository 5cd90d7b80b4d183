import Derived.Test.YtenkdmloolbdaaaGreatDoorE20
import Derived.Test.YtenkdmloolbdaaaGreatDoorE21
import Derived.Test.YtenkdmloolbdaaaGreatDoorE04
import Derived.Sort.OwnSortedInts
import Derived.Test.YtenkdmloolbdaaaGreatDoorE19
set_option linter.unusedVariables false
set_option linter.unusedSimpArgs false
set_option maxHeartbeats 8000000
set_option maxRecDepth 100000
section
namespace Go.Proofs.YtenkdmloolbdaaaGreatDoor.TZ
open Go.RowKit Go.Proofs.YtenkdmloolbdaaaGreatDoorW.PrintWords Go.Proofs.YtenkdmloolbdaaaGreatDoorW.PrintLast Go.Proofs.YtenkdmloolbdaaaGreatDoorW.PrintMore Go.Proofs.YtenkdmloolbdaaaGreatDoor.PH
theorem ad_plain {w : World} {ad : Addr} {v : Value} (h : w.cell? ad = some v) : ad = ⟨ad.block, ad.off, none⟩ := by
 obtain ⟨b, o, s⟩ := ad
 cases s with
 | none => rfl
 | some s =>
  simp only [World.cell?] at h
  split at h <;> simp_all
theorem reads_plain {w : World} {A : Option Addr} {n : Nat} {xs : List Int} (h : (Kd.int .i64).C w A n xs) (h0 : 0 < n) : ∃ b off, A = some ⟨b, off, none⟩ ∧ ∀ j, j < n → w.cell? ⟨b, off + j, none⟩ = some (.int .i64 (rd xs (j : Int))) := by
 obtain ⟨ad, rfl, h1⟩ := Kd.at_int h ((0 : Nat) : Int) (by omega) (by omega)
 rw [Int.toNat_natCast, Addr.add_zero'] at h1
 have e := ad_plain h1
 refine ⟨ad.block, ad.off, by rw [← e], fun j hj => ?_⟩
 obtain ⟨ad2, e2, h2⟩ := Kd.at_int h (j : Int) (by omega) (by omega)
 obtain rfl := (Option.some.inj e2)
 rw [Int.toNat_natCast, e, Addr.add_lit] at h2
 exact h2
theorem cp_pred (n f : Int) (A : Option Addr) (la ca : Nat) (B : Option Addr) (lb cb b : Nat) (w : World) (H : Box w b n f A la ca B lb cb) :
 PredAt Tryz.prog 135 #[.pointer (some ⟨b, 0, none⟩)] (Value.int .i64) (fun x => decide (x < 0) || decide (n ≤ x)) w := fun W x hb => by
 have c0 := (H.below hb).c0
 show Calls Tryz.prog 135 #[.int .i64 x, .pointer (some ⟨b, 0, none⟩)] W _
 by_cases h0 : x < 0
 ·have e0 : decide (x < 0) = true := decide_eq_true h0
  go_enter Tryz.func135, Tryz.ntmps135
  go_wp2_with fail
  go_ret
  exact ⟨by rw [e0]; rfl, 0, rfl⟩
 ·have e0 : decide (x < 0) = false := decide_eq_false h0
  obtain ⟨e, he⟩ : ∃ e, decide (n ≤ x) = e := ⟨_, rfl⟩
  go_enter Tryz.func135, Tryz.ntmps135
  go_wp2_with fail
  go_ret
  exact ⟨rfl, 0, rfl⟩
theorem cp_any (n : Int) (cpus : List Int) : (cpus.any fun x => decide (x < 0) || decide (n ≤ x)) = !cpB n cpus := by
 unfold cpB
 induction cpus with
 | nil => rfl
 | cons c l ih =>
  rw [List.any_cons, List.all_cons, ih, Bool.not_and]
  congr 1
  rw [Bool.not_and]
  congr 1
  ·by_cases h : c < 0
   ·rw [decide_eq_true h, decide_eq_false (by omega)]; rfl
   ·rw [decide_eq_false h, decide_eq_true (by omega)]; rfl
  ·by_cases h : n ≤ c
   ·rw [decide_eq_true h, decide_eq_false (by omega)]; rfl
   ·rw [decide_eq_false h, decide_eq_true (by omega)]; rfl
theorem contains_own (n f : Int) (A : Option Addr) (ca : Nat) (B : Option Addr) (lb cb b : Nat) (cpus : List Int) (w : World) (hr : (Kd.int .i64).C w A cpus.length cpus) (H : Box w b n f A cpus.length ca B lb cb) :
 Calls Tryz.prog 134 #[.slice A cpus.length ca, .func (.func 135) #[] #[.pointer (some ⟨b, 0, none⟩)]] w fun e w' => e = .returned (.bool (!cpB n cpus)) ∧ ∃ q, w' = w.drewN q := by
 have eg : ∀ args w, (callFunc 135 args).run Tryz.prog w = .ok (.enter 135 args) w := enters_of Tryz.func135 (by kernel_rfl) rfl
 rcases Nat.eq_zero_or_pos cpus.length with h0 | h0
 ·obtain rfl : cpus = [] := List.length_eq_zero_iff.1 h0
  have hcon := AnyE.slices_ContainsFunc_empty Tryz.layContains A ca (.func (.func 135) #[] #[.pointer (some ⟨b, 0, none⟩)]) w
  change Calls Tryz.prog 134 _ _ _ at hcon
  exact hcon.mono fun _ _ ⟨he, hw⟩ => ⟨by rw [he]; rfl, 0, by rw [hw]; rfl⟩
 ·obtain ⟨bk, off, rfl, hc⟩ := reads_plain hr h0
  have hcon := AnyE.slices_ContainsFunc Tryz.layContains (Value.int .i64) (fun x => decide (x < 0) || decide (n ≤ x)) 135 #[.pointer (some ⟨b, 0, none⟩)] eg bk off cpus.length ca cpus w (cp_pred n f _ _ ca B lb cb b w H) (Nat.le_refl _) hr.2.1 (fun j hj => by
   rw [hc j hj]
   congr 2
   unfold rd
   rw [Int.toNat_natCast, getElem!_pos cpus j hj, List.getD_eq_getElem?_getD, List.getElem?_eq_getElem hj]; rfl)
  change Calls Tryz.prog 134 _ _ _ at hcon
  rw [List.take_length, cp_any] at hcon
  exact hcon
theorem check_own (n f : Int) (A : Option Addr) (ca : Nat) (cpus : List Int) (B : Option Addr) (cb : Nat) (dist : List (List Int)) (w : World) (hr2 : Kd.C (Kd.int .i64) w A cpus.length cpus) (hca : cpus.length ≤ ca) (hr3 : Kd.C (Kd.slice 3 (Kd.int .i64)) w B dist.length dist) (hcb : dist.length ≤ cb) :
 Calls Tryz.prog 81 #[.agg #[.int .i64 n, .int .i64 f, .slice A cpus.length ca, .slice B dist.length cb]] w fun e w' => e = .returned (.int .i64 (chk n f cpus dist)) ∧ Below w.heap.size w w' := by
 have HR2 := ak hr2
 have HR3 := ak hr3
 clear hr2 hr3
 obtain ⟨c, hc⟩ : ∃ c, countsB n f cpus = c := ⟨_, rfl⟩
 have HC := ak hc
 obtain ⟨p, hp⟩ : ∃ p, cpB n cpus = p := ⟨_, rfl⟩
 have HP := ak hp
 obtain ⟨m, hm⟩ : ∃ m, mtB n.toNat dist = m := ⟨_, rfl⟩
 have HM := ak hm
 clear hc hp hm
 cases c with
 | false =>
  have HK := ak (show chk n f cpus dist = 3 by unfold chk; rw [HC.1]; rfl)
  go_enter Tryz.func81, Tryz.ntmps81
  go_wp2_with (first | (go_at_call 133; (with_reducible refine (topo_counts.calls n f A ca cpus B cb dist false _ (Kd.C_alloc HR2.1 _) hca (Kd.C_alloc HR3.1 _) hcb (by rw [counts_f, HC.1])).mono ?_); rintro e_ w2 ⟨rfl, hb⟩; have HX2 := ak ((Box.new w n f A cpus.length ca B dist.length cb).below hb); have HB2 := ak (below_then (below_alloc (Below.refl w.heap.size w) _) (by simp) hb); clear hb; have c0 := HX2.1.c0; have c1 := HX2.1.c1; have c2 := HX2.1.c2; have c3 := HX2.1.c3))
  go_ret
  exact ⟨by rw [HK.1]; rfl, HB2.1⟩
 | true =>
  cases p with
  | false =>
   have HK := ak (show chk n f cpus dist = 10 by unfold chk; rw [HC.1, HP.1]; rfl)
   go_enter Tryz.func81, Tryz.ntmps81
   go_wp2_with (first | (go_at_call 133; (with_reducible refine (topo_counts.calls n f A ca cpus B cb dist true _ (Kd.C_alloc HR2.1 _) hca (Kd.C_alloc HR3.1 _) hcb (by rw [counts_f, HC.1])).mono ?_); rintro e_ w2 ⟨rfl, hb⟩; have HX2 := ak ((Box.new w n f A cpus.length ca B dist.length cb).below hb); have HB2 := ak (below_then (below_alloc (Below.refl w.heap.size w) _) (by simp) hb); clear hb; have c0 := HX2.1.c0; have c1 := HX2.1.c1; have c2 := HX2.1.c2; have c3 := HX2.1.c3) | (go_at_call 134; (with_reducible refine (contains_own n f A ca B dist.length cb w.heap.size cpus w2 (Kd.C_below HR2.1 HB2.1) HX2.1).mono ?_); rintro e_ w3 ⟨he_, q, rfl⟩; go_loud (rw [HP.1] at he_); go_loud (obtain rfl := he_); go_loud (have HX3 := ak (HX2.1.below (pw_below_drewN (Below.refl _ _) q))); have HB3 := ak (pw_below_drewN HB2.1 q); clear c0 c1 c2 c3; have c0 := HX3.1.c0; have c1 := HX3.1.c1; have c2 := HX3.1.c2; have c3 := HX3.1.c3))
   go_ret
   exact ⟨by rw [HK.1]; rfl, HB3.1⟩
  | true =>
   have hn : 1 ≤ n ∧ n ≤ 8 := by
    have h := HC.1
    unfold countsB at h
    simp only [Bool.and_eq_true, decide_eq_true_eq] at h
    omega
   obtain ⟨k, rfl⟩ : ∃ k : Nat, n = (k : Int) := ⟨n.toNat, by omega⟩
   rw [Int.toNat_natCast] at HM
   have HMT := ak (show ∀ W : World, Kd.C (Kd.slice 3 (Kd.int .i64)) W B dist.length dist → Calls Tryz.prog 136 #[.agg #[.int .i64 k, .int .i64 f, .slice A cpus.length ca, .slice B dist.length cb]] W fun e w' => e = .returned (.bool m) ∧ Below W.heap.size W w' from fun W hW => (matrix_own k (by omega) (by omega) f A cpus.length ca B cb dist W hW hcb).mono fun _ _ ⟨he, hb⟩ => ⟨by rw [he, HM.1], hb⟩)
   have HK := ak (show chk (k : Int) f cpus dist = if m = true then 0 else 4 by unfold chk; rw [HC.1, HP.1, Int.toNat_natCast, HM.1]; rfl)
   clear hn
   cases m with
   | false =>
    go_enter Tryz.func81, Tryz.ntmps81
    go_wp2_with (first | (go_at_call 133; (with_reducible refine (topo_counts.calls k f A ca cpus B cb dist true _ (Kd.C_alloc HR2.1 _) hca (Kd.C_alloc HR3.1 _) hcb (by rw [counts_f, HC.1])).mono ?_); rintro e_ w2 ⟨rfl, hb⟩; have HX2 := ak ((Box.new w k f A cpus.length ca B dist.length cb).below hb); have HB2 := ak (below_then (below_alloc (Below.refl w.heap.size w) _) (by simp) hb); clear hb; have c0 := HX2.1.c0; have c1 := HX2.1.c1; have c2 := HX2.1.c2; have c3 := HX2.1.c3) | (go_at_call 134; (with_reducible refine (contains_own k f A ca B dist.length cb w.heap.size cpus w2 (Kd.C_below HR2.1 HB2.1) HX2.1).mono ?_); rintro e_ w3 ⟨he_, q, rfl⟩; go_loud (rw [HP.1] at he_); go_loud (obtain rfl := he_); go_loud (have HX3 := ak (HX2.1.below (pw_below_drewN (Below.refl _ _) q))); have HB3 := ak (pw_below_drewN HB2.1 q); clear c0 c1 c2 c3; have c0 := HX3.1.c0; have c1 := HX3.1.c1; have c2 := HX3.1.c2; have c3 := HX3.1.c3) | (go_at_call 136; (with_reducible refine (HMT.1 _ (Kd.C_below HR3.1 HB3.1)).mono ?_); rintro e_ w4 ⟨rfl, hb⟩; have HB4 := ak (below_then HB3.1 HB3.1.size hb); clear hb))
    go_ret
    exact ⟨by rw [HK.1]; rfl, HB4.1⟩
   | true =>
    go_enter Tryz.func81, Tryz.ntmps81
    go_wp2_with (first | (go_at_call 133; (with_reducible refine (topo_counts.calls k f A ca cpus B cb dist true _ (Kd.C_alloc HR2.1 _) hca (Kd.C_alloc HR3.1 _) hcb (by rw [counts_f, HC.1])).mono ?_); rintro e_ w2 ⟨rfl, hb⟩; have HX2 := ak ((Box.new w k f A cpus.length ca B dist.length cb).below hb); have HB2 := ak (below_then (below_alloc (Below.refl w.heap.size w) _) (by simp) hb); clear hb; have c0 := HX2.1.c0; have c1 := HX2.1.c1; have c2 := HX2.1.c2; have c3 := HX2.1.c3) | (go_at_call 134; (with_reducible refine (contains_own k f A ca B dist.length cb w.heap.size cpus w2 (Kd.C_below HR2.1 HB2.1) HX2.1).mono ?_); rintro e_ w3 ⟨he_, q, rfl⟩; go_loud (rw [HP.1] at he_); go_loud (obtain rfl := he_); go_loud (have HX3 := ak (HX2.1.below (pw_below_drewN (Below.refl _ _) q))); have HB3 := ak (pw_below_drewN HB2.1 q); clear c0 c1 c2 c3; have c0 := HX3.1.c0; have c1 := HX3.1.c1; have c2 := HX3.1.c2; have c3 := HX3.1.c3) | (go_at_call 136; (with_reducible refine (HMT.1 _ (Kd.C_below HR3.1 HB3.1)).mono ?_); rintro e_ w4 ⟨rfl, hb⟩; have HB4 := ak (below_then HB3.1 HB3.1.size hb); clear hb))
    go_ret
    exact ⟨by rw [HK.1]; rfl, HB4.1⟩
end Go.Proofs.YtenkdmloolbdaaaGreatDoor.TZ
end
section
namespace Go.Proofs.YtenkdmloolbdaaaGreatDoor.TZ
open Go.RowKit Go.Sort Go.Proofs.YtenkdmloolbdaaaGreatDoorW.PrintWords Go.Proofs.YtenkdmloolbdaaaGreatDoorW.PrintLast Go.Proofs.YtenkdmloolbdaaaGreatDoorW.PrintMore Go.Proofs.YtenkdmloolbdaaaGreatDoor.PH
theorem cmp_own (x y : Int) (W : World) : Calls Tryz.prog 204 #[.int .i64 x, .int .i64 y] W fun e w' => e = .returned (.int .i64 (Lib.compareInt x y)) ∧ w' = W := by
 have hcon := AnyG.cmp_Compare_int Tryz.layCompare x y W
 exact hcon
theorem or_own (b : Nat) (x y : Int) (W : World) (c0 : W.cell? ⟨b, 0, none⟩ = some (.int .i64 x)) (c1 : W.cell? ⟨b, 1, none⟩ = some (.int .i64 y)) :
 Calls Tryz.prog 226 #[.slice (some ⟨b, 0, none⟩) 2 2] W fun e w' => e = .returned (.int .i64 (if x = 0 then y else x)) ∧ w' = W := by
 have hx : x = 0 ∨ (x != 0) = true := by by_cases h : x = 0 <;> simp [h]
 have hy : y = 0 ∨ (y != 0) = true := by by_cases h : y = 0 <;> simp [h]
 rcases hx with rfl | hx
 ·have hz : ((0 : Int) != 0) = false := rfl
  rcases hy with rfl | hy
  ·go_enter Tryz.func226, Tryz.ntmps226
   go_wp2_with fail
   refine wp_loop_rounds 3 ?_
   rw [rounds_succ]
   go_wp2_with fail
   rw [rounds_succ]
   go_wp2_with fail
   rw [rounds_succ]
   go_wp2_with fail
   go_ret
   exact ⟨rfl, rfl⟩
  ·go_enter Tryz.func226, Tryz.ntmps226
   go_wp2_with fail
   refine wp_loop_rounds 3 ?_
   rw [rounds_succ]
   go_wp2_with fail
   rw [rounds_succ]
   go_wp2_with fail
   go_ret
   exact ⟨rfl, rfl⟩
 ·have hne : x ≠ 0 := by simpa using hx
  rw [if_neg hne]
  clear hne
  go_enter Tryz.func226, Tryz.ntmps226
  go_wp2_with fail
  refine wp_loop_rounds 3 ?_
  rw [rounds_succ]
  go_wp2_with fail
  go_ret
  exact ⟨rfl, rfl⟩
theorem new_cell (W : World) (cs : Array Value) (t : TypeId) (i : Nat) : ((W.alloc (.cells cs t)).drew).cell? ⟨W.drew.heap.size, i, none⟩ = cs[i]? := by
 show (W.alloc (.cells cs t)).cell? ⟨W.heap.size, i, none⟩ = _
 simp only [World.cell?, heap_alloc_new]; rfl
def cfv (dx dy x y : Int) : Int := if Lib.compareInt dx dy = 0 then Lib.compareInt x y else Lib.compareInt dx dy
theorem clos_own (p rb ro m c x y : Nat) (dx dy : Int) (W : World) (hx : x < m) (hy : y < m) (hp : W.cell? ⟨p, 0, none⟩ = some (.slice (some ⟨rb, ro, none⟩) m c)) (q0 : W.cell? ⟨rb, ro + x, none⟩ = some (.int .i64 dx)) (q1 : W.cell? ⟨rb, ro + y, none⟩ = some (.int .i64 dy)) :
 Calls Tryz.prog 225 #[.int .i64 x, .int .i64 y, .pointer (some ⟨p, 0, none⟩)] W fun e w' => e = .returned (.int .i64 (cfv dx dy x y)) ∧ ∃ q os, w' = grow (W.drewN q) os := by
 have hx0 : (0 : Int) ≤ (x : Int) := by omega
 have hy0 : (0 : Int) ≤ (y : Int) := by omega
 have hxI : (x : Int) < (m : Int) := by omega
 have hyI : (y : Int) < (m : Int) := by omega
 have K1 := ak (fun w => cmp_own dx dy w)
 have K2 := ak (fun w => cmp_own x y w)
 unfold cfv
 obtain ⟨a, ha⟩ : ∃ a, Lib.compareInt dx dy = a := ⟨_, rfl⟩
 obtain ⟨b, hb⟩ : ∃ b, Lib.compareInt (x : Int) (y : Int) = b := ⟨_, rfl⟩
 rw [ha, hb]
 rw [ha] at K1
 rw [hb] at K2
 have K3 := ak (fun bb w h0 h1 => or_own bb a b w h0 h1)
 obtain ⟨r, hr⟩ : ∃ r, (if a = 0 then b else a) = r := ⟨_, rfl⟩
 rw [hr]
 rw [hr] at K3
 clear ha hb hr
 go_enter Tryz.func225, Tryz.ntmps225
 go_upto_region 1 with fail
 refine st_ 15 (fun w' => w'.cell? ⟨p, 0, none⟩ = some (.slice (some ⟨rb, ro, none⟩) m c) ∧ w'.cell? ⟨rb, ro + x, none⟩ = some (.int .i64 dx) ∧ w'.cell? ⟨rb, ro + y, none⟩ = some (.int .i64 dy)) [12, 13] ⟨hp, q0, q1⟩ (fun hHeld => ?_)
 refine pu_ 1 7 2 ?_
 refine pu_ 5 11 34 ?_
 refine pu_ 9 15 546 ?_
 refine pu_ 10 16 1570 ?_
 refine ta_ 0 6 1571 hHeld ?_
 refine pu_ 2 8 1575 ?_
 refine ta_ 3 9 1583 hHeld ?_
 refine ta_ 4 10 1599 hHeld ?_
 refine pu_ 6 12 1663 ?_
 refine ta_ 7 13 1791 hHeld ?_
 refine one_ (i := 8) (N := some 14) (bz 15 2047) rfl rfl (by kernel_rfl) (by decide) (fun K hK => ?_)
 refine goes_ Tryz.func204 (by kernel_rfl) rfl #[.int .i64 dx, .int .i64 dy] (by rfl) rfl rfl (by simp only [List.map_toArray, List.map_cons, List.map_nil]; rfl) ?_
 with_reducible refine (K1.out _).mono ?_
 rintro e_ w3 ⟨rfl, rfl⟩
 refine ⟨_, rfl, ?_⟩
 refine hK.out _ _ ⟨hp, q0, q1⟩ (fun hHeld => ?_)
 clear hK K
 refine no_ 14 ?_
 refine one_ (i := 11) (N := some 17) (bz 15 4095) rfl rfl (by kernel_rfl) (by decide) (fun K hK => ?_)
 refine goes_ Tryz.func204 (by kernel_rfl) rfl #[.int .i64 x, .int .i64 y] (by rfl) rfl rfl (by simp only [List.map_toArray, List.map_cons, List.map_nil]; rfl) ?_
 with_reducible refine (K2.out _).mono ?_
 rintro e_ w3 ⟨rfl, rfl⟩
 refine ⟨_, rfl, ?_⟩
 refine hK.out _ _ ⟨hp, q0, q1⟩ (fun hHeld => ?_)
 clear hK K
 refine no_ 17 ?_
 refine last_ (i := 12) (N := some 18) (bz 15 8191) rfl rfl (by kernel_rfl) (by decide) (fun K hK => ?_)
 refine va_ ?_
 refine hK.out _ _ ?_
 clear hK K
 refine no_ 18 ?_
 refine last_ (i := 13) (N := some 19) (bz 15 16383) rfl rfl (by kernel_rfl) (by decide) (fun K hK => ?_)
 refine goes_ Tryz.func226 (by kernel_rfl) rfl #[.slice (some ⟨W.drew.heap.size, 0, none⟩) 2 2] (by rfl) rfl rfl (by simp only [List.map_toArray, List.map_cons, List.map_nil]; rfl) ?_
 with_reducible refine (K3.out W.drew.heap.size _ (new_cell W _ _ _) (new_cell W _ _ _)).mono ?_
 rintro e_ w3 ⟨rfl, rfl⟩
 refine ⟨_, rfl, ?_⟩
 refine hK.out _ _ ?_
 clear hK K
 refine no_ 19 ?_
 refine pu_ 14 5 32767 ?_
 refine done_ (by kernel_rfl) ?_
 go_wp2_with fail
 go_ret
 exact ⟨rfl, 1, _, by rw [alloc_eq_grow]; rfl⟩
section
variable {α : Type} (k : α → Nat)
def bucket (lo m : Nat) (l : List α) : List α := (List.range' lo m).flatMap fun d => l.filter fun x => decide (k x = d)
theorem bucket_succ (lo m : Nat) (l : List α) : bucket k lo (m + 1) l = (l.filter fun x => decide (k x = lo)) ++ bucket k (lo + 1) m l := by
 unfold bucket; rw [List.range'_succ, List.flatMap_cons]
theorem bucket_rest (lo lo' m : Nat) (h : lo < lo') (l : List α) : bucket k lo' m (l.filter fun x => !decide (k x = lo)) = bucket k lo' m l := by
 unfold bucket
 rw [List.flatMap_def, List.flatMap_def]
 congr 1
 apply List.map_congr_left
 intro d hd
 rw [List.filter_filter]
 apply List.filter_congr
 intro x _
 have hd' := (List.mem_range'_1.1 hd).1
 by_cases h1 : k x = d
 ·rw [decide_eq_true h1, Bool.true_and, decide_eq_false (by omega)]; rfl
 ·rw [decide_eq_false h1, Bool.false_and]
theorem bucket_perm : ∀ (m lo : Nat) (l : List α), (∀ x ∈ l, lo ≤ k x ∧ k x < lo + m) → List.Perm (bucket k lo m l) l := by
 intro m
 induction m with
 | zero =>
  intro lo l h
  cases l with
  | nil => exact List.Perm.refl _
  | cons x l => have := h x (List.mem_cons_self ..); omega
 | succ m ih =>
  intro lo l h
  rw [bucket_succ, ← bucket_rest k lo (lo + 1) m (Nat.lt_succ_self _)]
  refine List.Perm.trans (List.Perm.append_left _ (ih (lo + 1) (l.filter fun x => !decide (k x = lo)) ?_)) (List.filter_append_perm _ _)
  intro x hx
  obtain ⟨h1, h2⟩ := List.mem_filter.1 hx
  have := h x h1
  have h3 : k x ≠ lo := by simpa using h2
  omega
theorem bucket_mem (lo m : Nat) (l : List α) (x : α) (h : x ∈ bucket k lo m l) : lo ≤ k x ∧ x ∈ l := by
 unfold bucket at h
 obtain ⟨d, h1, h2⟩ := List.mem_flatMap.1 h
 obtain ⟨h3, h4⟩ := List.mem_filter.1 h2
 have := of_decide_eq_true h4
 have := (List.mem_range'_1.1 h1).1
 exact ⟨by omega, h3⟩
theorem bucket_sorted (R : α → α → Prop) (hlt : ∀ x y, k x < k y → R x y) (l : List α) (hl : ∀ d, (l.filter fun x => decide (k x = d)).Pairwise R) : ∀ (m lo : Nat), (bucket k lo m l).Pairwise R := by
 intro m
 induction m with
 | zero => intro lo; exact List.Pairwise.nil
 | succ m ih =>
  intro lo
  rw [bucket_succ, List.pairwise_append]
  refine ⟨hl lo, ih (lo + 1), ?_⟩
  intro x hx y hy
  have h1 := of_decide_eq_true (List.mem_filter.1 hx).2
  have h2 := (bucket_mem k _ _ _ _ hy).1
  exact hlt x y (by omega)
end
def ordF (dist : List (List Int)) (a n : Nat) : List (Fin n) := bucket (fun b : Fin n => (dd dist a b.val).toNat) 10 246 (List.finRange n)
def ordL (dist : List (List Int)) (a n : Nat) : List Int := (ordF dist a n).map fun b => (b.val : Int)
def cfo (dist : List (List Int)) (a n : Nat) (x y : Fin n) : Int := cfv (dd dist a x.val) (dd dist a y.val) x.val y.val
theorem cfv_lt (dx dy x y : Int) : cfv dx dy x y < 0 ↔ dx < dy ∨ (dx = dy ∧ x < y) := by
 unfold cfv Lib.compareInt
 by_cases h1 : dx < dy
 ·simp [h1]
 ·by_cases h2 : dx > dy
  ·have : ¬ dx = dy := by omega
   simp [h1, h2, this]
  ·have h3 : dx = dy := by omega
   subst h3
   by_cases h4 : x < y
   ·simp [h4]
   ·by_cases h5 : x > y
    ·simp [h4, h5]
    ·simp [h4, h5]
theorem cfo_lt (dist : List (List Int)) (a n : Nat) (x y : Fin n) : ltOf (cfo dist a n) x y = decide (dd dist a x.val < dd dist a y.val ∨ (dd dist a x.val = dd dist a y.val ∧ x.val < y.val)) := by
 unfold ltOf cfo
 rw [decide_eq_decide, cfv_lt]
 omega
theorem cfo_swo (dist : List (List Int)) (a n : Nat) : SWO (ltOf (cfo dist a n)) where
 irrefl x := by rw [cfo_lt]; simp
 trans x y z h1 h2 := by rw [cfo_lt, decide_eq_true_eq] at *; omega
 ntrans x y z h1 h2 := by rw [cfo_lt, decide_eq_false_iff_not] at *; omega
theorem cfo_tot (dist : List (List Int)) (a n : Nat) : ∀ x y, (ltOf (cfo dist a n)) x y = false → (ltOf (cfo dist a n)) y x = false → x = y := by
 intro x y h1 h2
 rw [cfo_lt, decide_eq_false_iff_not] at h1 h2
 apply Fin.ext
 omega
def Far (dist : List (List Int)) (a n : Nat) : Prop := ∀ b, b < n → 10 ≤ dd dist a b ∧ dd dist a b ≤ 255
theorem ordF_perm (dist : List (List Int)) (a n : Nat) (h : Far dist a n) : List.Perm (ordF dist a n) (List.finRange n) := by
 unfold ordF
 apply bucket_perm
 intro x _
 have := h x.val x.isLt
 omega
theorem ordF_sort (dist : List (List Int)) (a n : Nat) (h : Far dist a n) : ((List.finRange n).mergeSort fun x y => !(ltOf (cfo dist a n)) y x) = ordF dist a n := by
 refine List.Perm.eq_of_pairwise (le := fun x y => (!(ltOf (cfo dist a n)) y x) = true) ?_ ?_ ?_ ((List.mergeSort_perm _ _).trans (ordF_perm dist a n h).symm)
 ·intro x y _ _ h1 h2
  exact cfo_tot dist a n x y (by simpa using h2) (by simpa using h1)
 ·apply List.pairwise_mergeSort
  ·intro x y z h1 h2
   rw [Bool.not_eq_true'] at *
   exact (cfo_swo dist a n).ntrans _ _ _ h2 h1
  ·intro x y
   rw [cfo_lt, cfo_lt]
   by_cases h1 : dd dist a y.val < dd dist a x.val ∨ dd dist a y.val = dd dist a x.val ∧ y.val < x.val
   ·rw [decide_eq_true h1, decide_eq_false (by omega)]; rfl
   ·rw [decide_eq_false h1]; rfl
 ·unfold ordF
  apply bucket_sorted
  ·intro x y hxy
   rw [cfo_lt, Bool.not_eq_true', decide_eq_false_iff_not]
   omega
  ·intro d
   have hp : (List.finRange n).Pairwise (fun x y => x < y) := List.pairwise_lt_finRange n
   refine List.Pairwise.imp_of_mem ?_ (hp.filter _)
   intro x y hx hy hxy
   have h1 := of_decide_eq_true (List.mem_filter.1 hx).2
   have h2 := of_decide_eq_true (List.mem_filter.1 hy).2
   rw [cfo_lt, Bool.not_eq_true', decide_eq_false_iff_not]
   have h3 := h x.val x.isLt
   have h4 := h y.val y.isLt
   have : x.val < y.val := hxy
   omega
theorem ordL_len (dist : List (List Int)) (a n : Nat) (h : Far dist a n) : (ordL dist a n).length = n := by
 unfold ordL
 rw [List.length_map, (ordF_perm dist a n h).length_eq, List.length_finRange]
theorem putRow_map {α : Type} [Inhabited α] (f : α → Int) (w : World) (g : Nat) (l : List α) : putRow (fun x => Value.int .i64 (f x)) w g 0 l.toArray = putRow (Value.int .i64) w g 0 (l.map f).toArray := by
 unfold putRow
 congr 1
 funext c
 unfold putCells
 apply Array.ext
 ·simp
 ·intro i h1 h2
  simp only [Array.getElem_mapIdx, List.size_toArray, List.length_map, Nat.sub_zero, Nat.zero_le, Nat.zero_add, true_and]
  by_cases h : i < l.length
  ·rw [if_pos h, if_pos h]
   rw [getElem!_pos l.toArray i (by simpa using h), getElem!_pos (l.map f).toArray i (by simpa using h)]
   simp
  ·rw [if_neg h, if_neg h]
def ids (n : Nat) : List Int := (List.finRange n).map fun b => (b.val : Int)
theorem sort_own (n a p rb ro cc g cap : Nat) (cur : Array Value) (dist : List (List Int)) (W : World) (hn : 1 ≤ n) (h8 : n ≤ 8) (hfar : Far dist a n) (hg : W.heap[g]? = some (.cells cur 3 (0, 0))) (ht : cur.toList.take n = (ids n).map (Value.int .i64))
 (hp : W.cell? ⟨p, 0, none⟩ = some (.slice (some ⟨rb, ro, none⟩) n cc)) (hpg : p ≠ g) (hpl : p < W.heap.size) (hrow : ∀ j, j < n → W.cell? ⟨rb, ro + j, none⟩ = some (.int .i64 (dd dist a j))) (hrb : rb ≠ g) (hrl : rb < W.heap.size) :
 Calls Tryz.prog 224 #[.slice (some ⟨g, 0, none⟩) n cap, .func (.func 225) #[] #[.pointer (some ⟨p, 0, none⟩)]] W fun e w' => e = .returned (.tuple #[]) ∧ ∃ m os, w' = grow (putRow (Value.int .i64) (Sort.ahead W m) g 0 (ordL dist a n).toArray) os := by
 haveI : Inhabited (Fin n) := ⟨⟨0, hn⟩⟩
 have eg : ∀ args w, (callFunc 225 args).run Tryz.prog w = .ok (.enter 225 args) w := enters_of Tryz.func225 (by kernel_rfl) rfl
 have hgl : g < W.heap.size := (Array.getElem?_eq_some_iff.1 hg).1
 have hsz : (List.finRange n).toArray.size = n := by simp
 have hH0 : Holds (Value.int .i64) W g 0 (ids n).toArray := Go.holds_of_blockI hg (by unfold ids; rw [List.length_map, List.length_finRange]; exact ht)
 have hH : Holds (fun b : Fin n => Value.int .i64 (b.val : Int)) W g 0 (List.finRange n).toArray := by
  intro j hj
  have hj' : j < n := by rw [hsz] at hj; exact hj
  obtain ⟨h1, h2⟩ := hH0 j (by unfold ids; simpa using hj')
  refine ⟨?_, h2⟩
  rw [h1]
  congr 2
  rw [getElem!_pos (ids n).toArray j (by unfold ids; simpa using hj'), getElem!_pos (List.finRange n).toArray j (by simpa using hj')]
  unfold ids
  simp
 have hcon := Any.slices_SortFunc_total Tryz.laySort (fun b : Fin n => Value.int .i64 (b.val : Int)) (fun _ => rfl) (cfo dist a n) (cfo_swo dist a n) 225 #[.pointer (some ⟨p, 0, none⟩)] g 0 cap (List.finRange n).toArray W eg ?_ hH hgl (by rw [hsz]; omega) (cfo_tot dist a n)
 ·rw [hsz] at hcon
  change Calls Tryz.prog 224 _ _ _ at hcon
  refine hcon.mono ?_
  rintro e w' ⟨he, m, os, hw⟩
  refine ⟨he, m, os, ?_⟩
  rw [hw, show (List.finRange n).toArray.toList = List.finRange n from rfl, ordF_sort dist a n hfar]
  unfold sortWorld ordL
  rw [putRow_map]
 ·intro m os dk hdk x y
  refine (clos_own p rb ro n cc x.val y.val (dd dist a x.val) (dd dist a y.val) _ x.isLt y.isLt ?_ ?_ ?_).mono ?_
  ·unfold sortWorld
   rw [cell?_grow _ _ _ (by rw [size_putRow]; exact hpl), cell?_putRow_other _ _ g 0 _ _ (Or.inl hpg)]
   exact hp
  ·unfold sortWorld
   rw [cell?_grow _ _ _ (by rw [size_putRow]; exact hrl), cell?_putRow_other _ _ g 0 _ _ (Or.inl hrb)]
   exact hrow x.val x.isLt
  ·unfold sortWorld
   rw [cell?_grow _ _ _ (by rw [size_putRow]; exact hrl), cell?_putRow_other _ _ g 0 _ _ (Or.inl hrb)]
   exact hrow y.val y.isLt
  ·rintro e w' ⟨he, q, os', hw⟩
   exact ⟨he, q, os', hw⟩
def erN (n f : Int) (cpus : List Int) (dist : List (List Int)) (node : Int) : Int := if chk n f cpus dist = 0 then (if node < 0 ∨ n ≤ node then 10 else 0) else chk n f cpus dist
theorem chk_zero {n f : Int} {cpus : List Int} {dist : List (List Int)} (h : chk n f cpus dist = 0) : ∃ k : Nat, n = (k : Int) ∧ 1 ≤ k ∧ k ≤ 8 ∧ dist.length = k ∧ (∀ a, a < k → (dist.getD a []).length = k) ∧ (∀ a, a < k → ∀ b, b < k → fit dist a b) := by
 unfold chk at h
 by_cases h1 : countsB n f cpus = true
 ·rw [if_pos h1] at h
  by_cases h2 : cpB n cpus = true
  ·rw [if_pos h2] at h
   by_cases h3 : mtB n.toNat dist = true
   ·have hn : 1 ≤ n ∧ n ≤ 8 := by
     unfold countsB at h1
     simp only [Bool.and_eq_true, decide_eq_true_eq] at h1
     omega
    obtain ⟨k, rfl⟩ : ∃ k : Nat, n = (k : Int) := ⟨n.toNat, by omega⟩
    rw [Int.toNat_natCast] at h3
    refine ⟨k, rfl, by omega, by omega, ?_⟩
    have hl : lensB k dist = true := by
     rcases Bool.eq_false_or_eq_true (lensB k dist) with e | e
     ·exact e
     ·rw [mt_no_lens k dist e] at h3; cases h3
    obtain ⟨l1, l2⟩ := lens_at hl
    refine ⟨l1, l2, fun a ha b hb => ?_⟩
    by_cases hf : dd dist a b = dd dist b a ∧ fit dist a b
    ·exact hf.2
    ·rw [mt_no k dist a b ha hb hf] at h3; cases h3
   ·rw [if_neg h3] at h; omega
  ·rw [if_neg h2] at h; omega
 ·rw [if_neg h1] at h; omega
theorem fit_far {n : Nat} {dist : List (List Int)} (h : ∀ a, a < n → ∀ b, b < n → fit dist a b) (a : Nat) (ha : a < n) : Far dist a n := by
 intro b hb
 have := h a ha b hb
 unfold fit at this
 split at this <;> omega
theorem ids_range (n : Nat) : ids n = (List.range n).map fun (b : Nat) => (b : Int) := by
 unfold ids
 apply List.ext_getElem
 ·simp
 ·intro i h1 h2; simp
theorem below_less0 (w w' : World) (o : Obj) (h : Below (w.alloc o).heap.size (w.alloc o) w') : Below w.heap.size w w' := below_then (below_alloc (Below.refl w.heap.size w) o) (by simp) h
theorem order_bad (n f : Int) (A : Option Addr) (ca : Nat) (cpus : List Int) (B : Option Addr) (cb : Nat) (dist : List (List Int)) (node : Int) (w : World) (hr2 : Kd.C (Kd.int .i64) w A cpus.length cpus) (hca : cpus.length ≤ ca) (hr3 : Kd.C (Kd.slice 3 (Kd.int .i64)) w B dist.length dist) (hcb : dist.length ≤ cb) (hbad : erN n f cpus dist node ≠ 0) :
 Calls Tryz.prog 199 #[.agg #[.int .i64 n, .int .i64 f, .slice A cpus.length ca, .slice B dist.length cb], .int .i64 node] w fun e w' => e = .returned (.tuple #[.slice none 0 0, .int .i64 (erN n f cpus dist node)]) ∧ Below w.heap.size w w' := by
 have HCK := ak (fun (W : World) h2 h3 => check_own n f A ca cpus B cb dist W h2 hca h3 hcb)
 have HR2 := ak hr2
 have HR3 := ak hr3
 clear hr2 hr3
 obtain ⟨c, hc⟩ : ∃ c, chk n f cpus dist = c := ⟨_, rfl⟩
 rw [hc] at HCK
 by_cases h0 : c = 0
 ·have hne : erN n f cpus dist node = 10 ∧ (node < 0 ∨ n ≤ node) := by
   unfold erN at hbad ⊢
   rw [hc, if_pos h0] at hbad ⊢
   by_cases hh : node < 0 ∨ n ≤ node
   ·rw [if_pos hh]; exact ⟨rfl, hh⟩
   ·rw [if_neg hh] at hbad; exact absurd rfl hbad
  rw [hne.1]
  have hor := hne.2
  subst h0
  clear hbad hne hc
  by_cases hneg : node < 0
  ·have d0 : decide (node < 0) = true := decide_eq_true hneg
   go_enter Tryz.func199, Tryz.ntmps199
   go_wp2_with (first | (go_at_call 81; (with_reducible refine (HCK.1 _ (Kd.C_alloc HR2.1 _) (Kd.C_alloc HR3.1 _)).mono ?_); rintro e_ w2 ⟨rfl, hb⟩; have HB2 := ak (below_less0 _ _ _ hb); have HX2 := ak ((Box.new w n f A cpus.length ca B dist.length cb).below hb); clear hb; have c0 := HX2.1.c0))
   go_ret2
   exact ⟨rfl, HB2.1⟩
  ·have d0 : decide (node < 0) = false := decide_eq_false hneg
   have d1 : decide (n ≤ node) = true := decide_eq_true (by omega)
   clear hor
   go_enter Tryz.func199, Tryz.ntmps199
   go_wp2_with (first | (go_at_call 81; (with_reducible refine (HCK.1 _ (Kd.C_alloc HR2.1 _) (Kd.C_alloc HR3.1 _)).mono ?_); rintro e_ w2 ⟨rfl, hb⟩; have HB2 := ak (below_less0 _ _ _ hb); have HX2 := ak ((Box.new w n f A cpus.length ca B dist.length cb).below hb); clear hb; have c0 := HX2.1.c0))
   go_ret2
   exact ⟨rfl, HB2.1⟩
 ·have hne : erN n f cpus dist node = c := by unfold erN; rw [hc, if_neg h0]
  rw [hne]
  have hb0 : (c != 0) = true := by simpa using h0
  clear hbad hne hc h0
  go_enter Tryz.func199, Tryz.ntmps199
  go_wp2_with (first | (go_at_call 81; (with_reducible refine (HCK.1 _ (Kd.C_alloc HR2.1 _) (Kd.C_alloc HR3.1 _)).mono ?_); rintro e_ w2 ⟨rfl, hb⟩; have HB2 := ak (below_less0 _ _ _ hb); clear hb))
  go_ret2
  exact ⟨rfl, HB2.1⟩
theorem below_of_grown {w w' : World} {g B : Nat} (h : w.grownBy w' (some g)) (hB : B ≤ g) (hs : B ≤ w.heap.size) : RowKit.Below B w w' :=
 ⟨h.os, h.tape, h.output, h.size, fun k hk => h.block k (by omega) (by simp; omega)⟩
def upto (i : Nat) : List Int := (List.range i).map fun (b : Nat) => (b : Int)
theorem upto_len (i : Nat) : (upto i).length = i := by unfold upto; simp
theorem upto_succ (i : Nat) : upto (i + 1) = upto i ++ [(i : Int)] := by unfold upto; rw [List.range_succ, List.map_append]; rfl
def RelO (w : World) (n : Nat) (v25 v7 : Value) (wr : World) : Prop :=
 ∃ i : Nat, v25 = .int .i64 i ∧ i ≤ n ∧ wr.ownsRow w.heap.size 3 1 v7 (upto i).length (nums .i64 (upto i)) ∧ Below w.heap.size w wr
theorem order_good (n a : Nat) (f : Int) (A : Option Addr) (ca : Nat) (cpus : List Int) (B : Option Addr) (cb : Nat) (dist : List (List Int)) (w : World) (hr2 : Kd.C (Kd.int .i64) w A cpus.length cpus) (hca : cpus.length ≤ ca) (hr3 : Kd.C (Kd.slice 3 (Kd.int .i64)) w B dist.length dist) (hcb : dist.length ≤ cb) (hck : chk n f cpus dist = 0) (hlt : a < n) :
 Calls Tryz.prog 199 #[.agg #[.int .i64 n, .int .i64 f, .slice A cpus.length ca, .slice B dist.length cb], .int .i64 a] w fun e w' => ∃ v, e = .returned (.tuple #[v, .int .i64 0]) ∧ w'.ownsRow w.heap.size 3 1 v (ordL dist a n).length (nums .i64 (ordL dist a n)) ∧ Below w.heap.size w w' := by
 obtain ⟨k, hk, h1, h8, hdl, hrl, hfit⟩ := chk_zero hck
 obtain rfl : n = k := by omega
 clear hk
 have HFAR := ak (fit_far hfit a hlt)
 have HROW := ak (hrl a hlt)
 have HDL := ak hdl
 have HCK := ak (fun (W : World) h2 h3 => hck ▸ check_own n f A ca cpus B cb dist W h2 hca h3 hcb)
 have HR2 := ak hr2
 have HR3 := ak hr3
 clear hr2 hr3 hck hfit hrl hdl
 have d0 : decide ((a : Int) < 0) = false := decide_eq_false (by omega)
 have d1 : decide (n ≤ a) = false := decide_eq_false (by omega)
 have a0 : (0 : Int) ≤ (a : Int) := by omega
 have aI : (a : Int) < (n : Int) := by omega
 go_enter Tryz.func199, Tryz.ntmps199
 go_upto_region 2 with (first | (go_at_call 81; (with_reducible refine (HCK.1 _ (Kd.C_alloc HR2.1 _) (Kd.C_alloc HR3.1 _)).mono ?_); rintro e_ w2 ⟨rfl, hb⟩; have HB2 := ak (below_less0 _ _ _ hb); have HX2 := ak ((Box.new w n f A cpus.length ca B dist.length cb).below hb); clear hb; have c0 := HX2.1.c0))
 obtain ⟨b, hbw⟩ : ∃ b, w.heap.size = b := ⟨_, rfl⟩
 have HBW := ak hbw
 rw [hbw] at HX2 c0 ⊢
 clear hbw
 have H0 := ak (show RelO w2 n (.int .i64 0) (.slice none 0 0) w2 from ⟨0, rfl, Nat.zero_le _, own_nil _ _ _ _, Below.refl _ _⟩)
 go_wp2_with fail
 go_loopw [25, 7, 8] (fun v25 v7 _ wr => RelO w2 n v25 v7 wr) (fun v25 _ _ _ => n - (intOf v25).toNat)
 case atStart => exact H0.1
 case round =>
  clear H0
  obtain ⟨i, rfl, hi, hO, hB⟩ := hrel
  have HO := ak hO
  have HB := ak hB
  clear hO hB
  by_cases hin : i < n
  ·have hib : decide (i < n) = true := decide_eq_true hin
   clear d0 d1 a0 aI c0
   go_wp2_with (first | ((with_reducible refine gate_builtin (b := .append) (xs := #[.tmp 28, .tmp 30]) rfl ?_); at_builtin; refine print_append_num (w0 := w2) w2.heap.size rfl (.tmp 28) (.tmp 30) 34 3 .i64 8 rfl Tryz.underlying34 info3 (by decide) u7 (upto i) (i : Int) rfl rfl HO.1 HB.1 HB.1.size (by rw [upto_len]; omega) ?_; intro v1 w1 ho hb hg hat; rw [← upto_succ] at ho; have HO2 := ak ho; have HB3 := ak hb; clear ho hb hg hat))
   go_roundw
   case rel => exact ⟨i + 1, by go_num, by omega, HO2.1, HB3.1⟩
   case measure => simp [intOf]; omega
  ·obtain rfl : i = n := by omega
   have hib : decide (i < i) = false := decide_eq_false hin
   have c3 := (HX2.1.below HB.1).c3
   rw [HDL.1] at c3
   obtain ⟨ad, A0, cc, rfl, p0, hcc, hrd⟩ := at_L1 HR3.1 (a : Int) a0 (by rw [HDL.1]; omega)
   rw [Int.toNat_natCast] at p0
   rw [rdl] at p0 hcc hrd
   rw [HROW.1] at p0 hcc hrd
   have p0 := pw_cell_below HB.1 (pw_cell_below HB2.1 p0)
   have HRD := ak hrd
   clear c0 d0 d1 hrd
   obtain ⟨hlen, hor⟩ := HO.1
   rw [upto_len] at hor
   rcases hor with ⟨_, h0⟩ | ⟨g, cap, cur, rfl, hgb, hgh, hnc, hcm, hcs, htk⟩
   ·omega
   have HGB := ak hgb
   have HGH := ak hgh
   have HNC := ak hnc
   have HCM := ak hcm
   have HCS := ak hcs
   have HTK := ak htk
   clear hgb hgh hnc hcm hcs htk hlen HO
   obtain ⟨rb, ro, rfl, hcell⟩ := reads_plain HRD.1 h1
   have HCELL := ak hcell
   have HRB := ak (World.block_lt_of_cell? w _ (hcell 0 h1))
   clear hcell
   go_upto_region 13 with fail
   obtain ⟨W, hW⟩ : ∃ W, wr.alloc (.cells #[.slice (some ⟨rb, ro, none⟩) i cc] 34) = W := ⟨_, rfl⟩
   have HWB := ak (show RowKit.Below wr.heap.size wr W from hW ▸ below_alloc (RowKit.Below.refl _ _) _)
   have HWC := ak (show W.cell? ⟨wr.heap.size, 0, none⟩ = some (.slice (some ⟨rb, ro, none⟩) i cc) by rw [← hW]; simp only [World.cell?, heap_alloc_new]; rfl)
   have HWS := ak (show wr.heap.size < W.heap.size by rw [← hW, World.size_alloc]; omega)
   rw [hW]
   have hz1 := HB2.1.size
   have hz2 := HB.1.size
   have hz3 := HWB.1.size
   have hgl : g < wr.heap.size := (Array.getElem?_eq_some_iff.1 HGH.1).1
   have hw2g := HGB.1
   have hrb : rb < w.heap.size := HRB.1
   have HGW := ak (show W.heap[g]? = some (.cells cur 3 (0, 0)) from (HWB.1.block g hgl).trans HGH.1)
   have HALL := ak (show RowKit.Below w.heap.size w W from below_then HB2.1 hz1 (below_then HB.1 hz2 HWB.1))
   have SORT := ak (sort_own i a wr.heap.size rb ro cc g cap cur dist W h1 h8 HFAR.1 HGW.1 (by rw [ids_range]; have := HTK.1; rw [Nat.mul_one] at this; exact this) HWC.1 (by omega) HWS.1 (fun j hj => by
    have := HALL.1.cell (p := ⟨rb, ro + j, none⟩) HRB.1
    rw [this, HCELL.1 j hj, ← rdl, rd_dd]) (by omega) (by omega))
   have hll : (ordL dist a i).length = (ids i).length := by rw [ordL_len dist a i HFAR.1]; unfold ids; simp
   have hil : (ids i).length = i := by unfold ids; simp
   have HOWN := ak (fun m os => Go.ownsRow_sortedI (w := W) (base := w.heap.size) (cap := cap) (n := m) (os := os) (ss := ids i) (ts := ordL dist a i) hll (by omega) HGW.1 (by rw [hil]; exact HNC.1) HCM.1 HCS.1)
   have HGR := ak (fun m os => Go.grownBy_sortedI (w := W) (g := g) (n := m) (os := os) (ordL dist a i).toArray)
   rw [hil] at HOWN
   have HLL := ak (hll.trans hil)
   have HBF := ak (show w.heap.size ≤ g ∧ w.heap.size ≤ W.heap.size by omega)
   clear hll hil HGB HGH HNC HCM HCS HTK hz1 hz2 hz3 hgl hw2g hrb HWB HWC HWS HGW hW HRB HCELL c3 p0
   go_wp2_with (first | (go_at_call 224; (with_reducible refine SORT.out.mono ?_); rintro e_ w4 ⟨rfl, m, os, hw4⟩; have HW4 := ak hw4; clear hw4))
   go_ret2
   refine ⟨_, rfl, ?_, ?_⟩
   ·rw [HLL.1, HW4.1]; exact HOWN.1 m os
   ·rw [HW4.1]; exact HALL.1.trans (below_of_grown (HGR.1 m os) HBF.1.1 HBF.1.2)
def hasB (s x : Int) : Bool := if 0 ≤ x ∧ x < 8 then ((Go.bits .and .u8 (shr .u8 s x) 1) == 1) else false
theorem right_own (x : Int) (b : Bool) (hb : decide (0 ≤ x ∧ x < 8) = b) (W : World) : Calls Tryz.prog 109 #[.int .i64 x] W fun e w' => e = .returned (.bool b) ∧ w' = W := by
 by_cases h0 : 0 ≤ x
 ·have d0 : decide (0 ≤ x) = true := decide_eq_true h0
  have d1 : decide (x < 8) = b := by rw [← hb, decide_eq_decide]; omega
  clear hb
  go_enter Tryz.func109, Tryz.ntmps109
  go_wp2_with fail
  go_ret
  exact ⟨rfl, rfl⟩
 ·have d0 : decide (0 ≤ x) = false := decide_eq_false h0
  obtain rfl : b = false := by rw [← hb]; exact decide_eq_false (by omega)
  go_enter Tryz.func109, Tryz.ntmps109
  go_wp2_with fail
  go_ret
  exact ⟨rfl, rfl⟩
theorem has_own (s x : Int) (W : World) : Calls Tryz.prog 50 #[.int .u8 s, .int .i64 x] W fun e w' => e = .returned (.bool (hasB s x)) ∧ w' = W := by
 by_cases h : 0 ≤ x ∧ x < 8
 ·have hr := right_own x true (decide_eq_true h)
  have hh : hasB s x = ((Go.bits .and .u8 (shr .u8 s x) 1) == 1) := if_pos h
  rw [hh]
  have d0 : decide (0 ≤ x) = true := decide_eq_true h.1
  have d00 := eq_true h.1
  obtain ⟨j, hj⟩ : ∃ j : Int, (shr .u8 s x) = j := ⟨_, rfl⟩
  rw [hj]
  have hj1 : (s / 2 ^ min x.toNat 8) = j := hj
  have hj2 : x ≤ 8 → (s / 2 ^ x.toNat) = j := shr_small hj
  clear hh hj
  go_enter Tryz.func50, Tryz.ntmps50
  go_wp2_with (first | (go_at_call 109; (with_reducible refine (hr _).mono ?_); rintro e_ w2 ⟨rfl, rfl⟩))
  go_ret
  exact ⟨by rw [hj2 (by omega)]; rfl, rfl⟩
 ·have hr := right_own x false (decide_eq_false h)
  have hh : hasB s x = false := if_neg h
  rw [hh]
  clear hh
  go_enter Tryz.func50, Tryz.ntmps50
  go_wp2_with (first | (go_at_call 109; (with_reducible refine (hr _).mono ?_); rintro e_ w2 ⟨rfl, rfl⟩))
  go_ret
  exact ⟨rfl, rfl⟩
theorem in_gives (s x : Int) (p : Nat) (W : World) (hp : W.cell? ⟨p, 0, none⟩ = some (.int .u8 s)) : FnGives Tryz.prog 201 #[.pointer (some ⟨p, 0, none⟩)] #[.int .i64 x] (.bool (!hasB s x)) W := by
 show Calls Tryz.prog 201 #[.int .i64 x, .pointer (some ⟨p, 0, none⟩)] W _
 have hh := has_own s x
 obtain ⟨b, hb⟩ : ∃ b, hasB s x = b := ⟨_, rfl⟩
 rw [hb] at hh ⊢
 clear hb
 go_enter Tryz.func201, Tryz.ntmps201
 go_wp2_with (first | (go_at_call 50; (with_reducible refine (hh _).mono ?_); rintro e_ w2 ⟨rfl, rfl⟩))
 go_ret
 exact ⟨rfl, 0, rfl⟩
theorem indexf_nil (W : World) (fv : Value) : Calls Tryz.prog 179 #[.slice none 0 0, fv] W fun e w' => e = .returned (.int .i64 (-1)) ∧ w' = W := by
 have hcon := AnyE.slices_IndexFunc_empty { Tryz.layContains with } none 0 fv W
 exact hcon
theorem delete_nil (W : World) (g : Nat) (lb : Array Value) : Calls Tryz.prog 200 #[.slice none 0 0, .func (.func g) #[] lb] W fun e w' => e = .returned (.slice none 0 0) ∧ w' = W := by
 have hi := fun w => indexf_nil w (.func (.func g) #[] lb)
 go_enter Tryz.func200, Tryz.ntmps200
 go_wp2_with (first | (go_at_call 179; (with_reducible refine (hi _).mono ?_); rintro e_ w2 ⟨rfl, rfl⟩))
 go_ret
 exact ⟨rfl, rfl⟩
def inL (s : Int) (l : List Int) : List Int := l.filter (hasB s)
theorem delete_own (s : Int) (p g cap : Nat) (cur : Array Value) (l : List Int) (base : Nat) (W : World) (hgb : base ≤ g) (hg : W.heap[g]? = some (.cells cur 3 (0, 0))) (hlc : l.length ≤ cap) (hcm : cap ≤ maxLen) (hcs : cur.size = cap * 1) (ht : cur.toList.take l.length = l.map (Value.int .i64)) (hl : l.length ≤ 1000)
 (hp : W.cell? ⟨p, 0, none⟩ = some (.int .u8 s)) (hpg : p ≠ g) (hpl : p < W.heap.size) :
 Calls Tryz.prog 200 #[.slice (some ⟨g, 0, none⟩) l.length cap, .func (.func 201) #[] #[.pointer (some ⟨p, 0, none⟩)]] W fun e w' => ∃ v, e = .returned v ∧ w'.ownsRow base 3 1 v (inL s l).length (nums .i64 (inL s l)) ∧ W.grownBy w' (some g) := by
 have eg : ∀ args w, (callFunc 201 args).run Tryz.prog w = .ok (.enter 201 args) w := enters_of Tryz.func201 (by kernel_rfl) rfl
 have hH : Holds (Value.int .i64) W g 0 l.toArray := Go.holds_of_blockI hg ht
 have hcon := AnyE.slices_DeleteFunc Tryz.layDelete (Value.int .i64) (fun _ => rfl) (fun x => !hasB s x) 201 #[.pointer (some ⟨p, 0, none⟩)] eg 0 Tryz.zeroValue3 g 0 cap l.toArray W
  (fun W' x hb => in_gives s x p W' ((hb.cell (p := ⟨p, 0, none⟩) hpl).trans hp))
  (fun n os dk x hdk => in_gives s x p _ (by
   unfold sortWorld
   rw [cell?_grow _ _ _ (by rw [size_putRow]; exact hpl), cell?_putRow_other _ _ g 0 _ _ (Or.inl hpg)]
   exact hp)) hH (by simpa using (by omega : l.length ≤ 9223372036854775807)) (by simpa using hlc)
 change Calls Tryz.prog 200 _ _ _ at hcon
 have hf : (l.filter fun x => !!hasB s x) = inL s l := by
  unfold inL
  congr 1
  funext x
  rw [Bool.not_not]
 simp only [List.size_toArray] at hcon
 rw [hf] at hcon
 have hll : (inL s l).length ≤ l.length := List.length_filter_le _ _
 obtain ⟨ts, hts⟩ : ∃ ts, inL s l ++ List.replicate (l.length - (inL s l).length) 0 = ts := ⟨_, rfl⟩
 rw [hts] at hcon
 have htl : ts.length = l.length := by rw [← hts, List.length_append, List.length_replicate]; omega
 refine hcon.mono ?_
 rintro e w' ⟨rfl, q, rfl⟩
 have hgr := Go.grownBy_sortedI (w := W) (g := g) (n := q) (os := #[]) ts.toArray
 have how := Go.ownsRow_sortedI (w := W) (base := base) (cap := cap) (n := q) (os := #[]) (ss := l) (ts := ts) htl hgb hg hlc hcm hcs
 rw [grow_empty] at hgr how
 refine ⟨_, rfl, ?_, hgr⟩
 obtain ⟨_, hor⟩ := how
 refine ⟨by unfold nums; simp, .inr ?_⟩
 rcases hor with ⟨h0, _⟩ | ⟨g', cap', cur', hv, h1, h2, h3, h4, h5, h6⟩
 ·cases h0
 ·cases hv
  refine ⟨g, cap, cur', rfl, h1, h2, by omega, h4, h5, ?_⟩
  rw [Nat.mul_one] at h6 ⊢
  have : cur'.toList.take (inL s l).length = (cur'.toList.take l.length).take (inL s l).length := by rw [List.take_take, Nat.min_eq_left hll]
  rw [this, h6, ← List.map_take, ← hts, List.take_left']
  ·rfl
  ·rfl
def lstN (n f : Int) (cpus : List Int) (dist : List (List Int)) (node : Int) : List Int := if erN n f cpus dist node = 0 then ordL dist node.toNat n.toNat else []
theorem er_zero {n f : Int} {cpus : List Int} {dist : List (List Int)} {node : Int} (h : erN n f cpus dist node = 0) : ∃ k a : Nat, n = (k : Int) ∧ node = (a : Int) ∧ a < k ∧ 1 ≤ k ∧ k ≤ 8 ∧ chk n f cpus dist = 0 ∧ Far dist a k := by
 unfold erN at h
 by_cases hc : chk n f cpus dist = 0
 ·rw [if_pos hc] at h
  by_cases hn : node < 0 ∨ n ≤ node
  ·rw [if_pos hn] at h; omega
  ·obtain ⟨k, hk, h1, h8, _, _, hfit⟩ := chk_zero hc
   have ha : node.toNat < k := by omega
   exact ⟨k, node.toNat, hk, by omega, ha, h1, h8, hc, fit_far hfit _ ha⟩
 ·rw [if_neg hc] at h; exact absurd h hc
theorem lstN_len (n f : Int) (cpus : List Int) (dist : List (List Int)) (node : Int) : (lstN n f cpus dist node).length ≤ 8 := by
 unfold lstN
 by_cases h : erN n f cpus dist node = 0
 ·rw [if_pos h]
  obtain ⟨k, a, rfl, rfl, hak, h1, h8, _, hf⟩ := er_zero h
  rw [Int.toNat_natCast, Int.toNat_natCast, ordL_len _ _ _ hf]; exact h8
 ·rw [if_neg h]; exact Nat.zero_le _
theorem order_own (n f : Int) (A : Option Addr) (ca : Nat) (cpus : List Int) (B : Option Addr) (cb : Nat) (dist : List (List Int)) (node : Int) (w : World) (hr2 : Kd.C (Kd.int .i64) w A cpus.length cpus) (hca : cpus.length ≤ ca) (hr3 : Kd.C (Kd.slice 3 (Kd.int .i64)) w B dist.length dist) (hcb : dist.length ≤ cb) :
 Calls Tryz.prog 199 #[.agg #[.int .i64 n, .int .i64 f, .slice A cpus.length ca, .slice B dist.length cb], .int .i64 node] w fun e w' => ∃ v, e = .returned (.tuple #[v, .int .i64 (erN n f cpus dist node)]) ∧ w'.ownsRow w.heap.size 3 1 v (lstN n f cpus dist node).length (nums .i64 (lstN n f cpus dist node)) ∧ RowKit.Below w.heap.size w w' := by
 by_cases h : erN n f cpus dist node = 0
 ·have hl : lstN n f cpus dist node = ordL dist node.toNat n.toNat := if_pos h
  rw [hl, h]
  obtain ⟨k, a, rfl, rfl, hak, h1, h8, hck, hf⟩ := er_zero h
  rw [Int.toNat_natCast, Int.toNat_natCast]
  exact order_good k a f A ca cpus B cb dist w hr2 hca hr3 hcb hck hak
 ·have hl : lstN n f cpus dist node = [] := if_neg h
  rw [hl]
  refine (order_bad n f A ca cpus B cb dist node w hr2 hca hr3 hcb h).mono ?_
  rintro e w' ⟨rfl, hb⟩
  exact ⟨_, rfl, own_nil _ _ _ _, hb⟩
structure RowAt (w : World) (base g cap : Nat) (cur : Array Value) (l : List Int) : Prop where
 lo : base ≤ g
 cell : w.heap[g]? = some (.cells cur 3 (0, 0))
 lc : l.length ≤ cap
 cm : cap ≤ maxLen
 cs : cur.size = cap * 1
 tk : cur.toList.take l.length = l.map (Value.int .i64)
theorem own_open {w : World} {base : Nat} {v : Value} {l : List Int} (h : w.ownsRow base 3 1 v l.length (nums .i64 l)) : (v = .slice none 0 0 ∧ l = []) ∨ ∃ g cap cur, v = .slice (some ⟨g, 0, none⟩) l.length cap ∧ RowAt w base g cap cur l := by
 obtain ⟨_, ⟨hv, h0⟩ | ⟨g, cap, cur, hv, h1, h2, h3, h4, h5, h6⟩⟩ := h
 ·exact .inl ⟨hv, List.length_eq_zero_iff.1 h0⟩
 ·exact .inr ⟨g, cap, cur, hv, ⟨h1, h2, h3, h4, h5, by rw [Nat.mul_one] at h6; exact h6⟩⟩
theorem within_own (n f : Int) (A : Option Addr) (ca : Nat) (cpus : List Int) (B : Option Addr) (cb : Nat) (dist : List (List Int)) (node s : Int) (w : World) (hr2 : Kd.C (Kd.int .i64) w A cpus.length cpus) (hca : cpus.length ≤ ca) (hr3 : Kd.C (Kd.slice 3 (Kd.int .i64)) w B dist.length dist) (hcb : dist.length ≤ cb) :
 Calls Tryz.prog 162 #[.agg #[.int .i64 n, .int .i64 f, .slice A cpus.length ca, .slice B dist.length cb], .int .i64 node, .int .u8 s] w fun e w' => ∃ v, e = .returned (.tuple #[v, .int .i64 (erN n f cpus dist node)]) ∧ w'.ownsRow w.heap.size 3 1 v (inL s (lstN n f cpus dist node)).length (nums .i64 (inL s (lstN n f cpus dist node))) ∧ RowKit.Below w.heap.size w w' := by
 have HO := ak (fun (W : World) h2 h3 => order_own n f A ca cpus B cb dist node W h2 hca h3 hcb)
 have HR2 := ak hr2
 have HR3 := ak hr3
 have hl8 := lstN_len n f cpus dist node
 clear hr2 hr3
 obtain ⟨l, hl⟩ : ∃ l, lstN n f cpus dist node = l := ⟨_, rfl⟩
 obtain ⟨er, her⟩ : ∃ er, erN n f cpus dist node = er := ⟨_, rfl⟩
 rw [hl] at HO hl8 ⊢
 rw [her] at HO ⊢
 clear hl her
 obtain ⟨w0, hw0⟩ : ∃ w0, (w.alloc (.cells #[.int .i64 n, .int .i64 f, .slice A cpus.length ca, .slice B dist.length cb] 37)).alloc (.cells #[.int .u8 s] 38) = w0 := ⟨_, rfl⟩
 have HB0 := ak (show RowKit.Below w.heap.size w w0 from hw0 ▸ below_alloc (below_alloc (RowKit.Below.refl _ _) _) _)
 have HS0 := ak (show w0.heap.size = w.heap.size + 2 by rw [← hw0, World.size_alloc, World.size_alloc])
 have HP0 := ak (show w0.cell? ⟨w.heap.size + 1, 0, none⟩ = some (.int .u8 s) by
  rw [← hw0]
  have := heap_alloc_new (w.alloc (.cells #[.int .i64 n, .int .i64 f, .slice A cpus.length ca, .slice B dist.length cb] 37)) (.cells #[.int .u8 s] 38)
  rw [World.size_alloc] at this
  simp only [World.cell?, this]; rfl)
 have HW0 := ak hw0
 clear hw0
 go_enter Tryz.func162, Tryz.ntmps162
 go_upto_region 2 with (first | (go_at_call 199; rw [HW0.1]; (with_reducible refine (HO.1 _ (Kd.C_below HR2.1 HB0.1) (Kd.C_below HR3.1 HB0.1)).mono ?_); rintro e_ w2 ⟨v, rfl, hown, hb⟩; have HOW := ak hown; have HB := ak hb; clear hown hb))
 have HP2 := ak (show w2.cell? ⟨w.heap.size + 1, 0, none⟩ = some (.int .u8 s) from (HB.1.cell (p := ⟨w.heap.size + 1, 0, none⟩) (by have := HS0.1; show w.heap.size + 1 < _; omega)).trans HP0.1)
 have HB2 := ak (show RowKit.Below w.heap.size w w2 from below_then HB0.1 (by have := HS0.1; omega) HB.1)
 rcases own_open HOW.1 with ⟨rfl, rfl⟩ | ⟨g, cap, cur, rfl, hra⟩
 ·clear HOW
  go_wp2_with (first | (go_at_call 200; (with_reducible refine (delete_nil _ _ _).mono ?_); rintro e_ w3 ⟨rfl, rfl⟩))
  go_ret2
  exact ⟨_, rfl, own_nil _ _ _ _, HB2.1⟩
 ·have hz := HS0.1
  have hlo := hra.lo
  have hz2 := HB.1.size
  have HDEL := ak (delete_own s (w.heap.size + 1) g cap cur l w.heap.size w2 (by omega) hra.cell hra.lc hra.cm hra.cs hra.tk (by omega) HP2.1 (by omega) (by omega))
  have HGB := ak (show w.heap.size ≤ g ∧ w.heap.size ≤ w2.heap.size by omega)
  clear hz hlo hz2 hra HOW
  go_wp2_with (first | (go_at_call 200; (with_reducible refine HDEL.1.mono ?_); rintro e_ w3 ⟨v, rfl, hown, hg⟩; have HOW3 := ak hown; have HG3 := ak hg; clear hown hg))
  go_ret2
  exact ⟨_, rfl, HOW3.1, HB2.1.trans (below_of_grown HG3.1 HGB.1.1 HGB.1.2)⟩
def okB (may : List Bool) (x : Int) : Bool := decide (x < (may.length : Int)) && rdOf false may x
def nearR (may : List Bool) (l : List Int) : Option Int := l.find? (okB may)
theorem near_hit (may : List Bool) (l : List Int) (i : Nat) (hi : i < l.length) (hno : ∀ j, j < i → okB may (rd l (j : Int)) = false) (hy : okB may (rd l (i : Int)) = true) : nearR may l = some (rd l (i : Int)) := by
 unfold nearR
 rw [List.find?_eq_some_iff_getElem]
 have e : ∀ j (hj : j < l.length), rd l (j : Int) = l[j] := fun j hj => rd_at l j hj
 refine ⟨hy, i, hi, (e i hi).symm, fun j hj => ?_⟩
 rw [← e j (by omega), hno j hj]; rfl
theorem near_miss (may : List Bool) (l : List Int) (hno : ∀ j, j < l.length → okB may (rd l (j : Int)) = false) : nearR may l = none := by
 unfold nearR
 rw [List.find?_eq_none]
 intro x hx
 obtain ⟨j, hj, rfl⟩ := List.mem_iff_getElem.1 hx
 have := hno j hj
 rw [rd_at l j hj] at this
 rw [this]; simp
def nearV (o : Option Int) : Value := .tuple #[.int .i64 (o.getD 0), .bool o.isSome]
def RelN (l : List Int) (may : List Bool) (w2 : World) (v25 : Value) (wr : World) : Prop :=
 ∃ i : Nat, v25 = .int .i64 i ∧ i ≤ l.length ∧ wr = w2 ∧ (∀ j, j < i → okB may (rd l (j : Int)) = false)
theorem ordL_nonneg (dist : List (List Int)) (a n : Nat) : ∀ x ∈ ordL dist a n, 0 ≤ x := by
 intro x hx
 unfold ordL at hx
 obtain ⟨b, _, rfl⟩ := List.mem_map.1 hx
 omega
theorem lstN_nonneg (n f : Int) (cpus : List Int) (dist : List (List Int)) (node : Int) : ∀ x ∈ lstN n f cpus dist node, 0 ≤ x := by
 intro x hx
 unfold lstN at hx
 by_cases h : erN n f cpus dist node = 0
 ·rw [if_pos h] at hx; exact ordL_nonneg _ _ _ x hx
 ·rw [if_neg h] at hx; cases hx
theorem nearest_own (n f : Int) (A : Option Addr) (ca : Nat) (cpus : List Int) (B : Option Addr) (cb : Nat) (dist : List (List Int)) (node s : Int) (M : Option Addr) (cm : Nat) (may : List Bool) (w : World) (hr2 : Kd.C (Kd.int .i64) w A cpus.length cpus) (hca : cpus.length ≤ ca) (hr3 : Kd.C (Kd.slice 3 (Kd.int .i64)) w B dist.length dist) (hcb : dist.length ≤ cb) (hrm : Kd.C Kd.bool w M may.length may) :
 Calls Tryz.prog 111 #[.agg #[.int .i64 n, .int .i64 f, .slice A cpus.length ca, .slice B dist.length cb], .int .i64 node, .int .u8 s, .slice M may.length cm] w fun e w' => e = .returned (nearV (nearR may (inL s (lstN n f cpus dist node)))) ∧ RowKit.Below w.heap.size w w' := by
 have HO := ak (fun (W : World) h2 h3 => within_own n f A ca cpus B cb dist node s W h2 hca h3 hcb)
 have HR2 := ak hr2
 have HR3 := ak hr3
 have HRM := ak hrm
 have hnn : ∀ x ∈ inL s (lstN n f cpus dist node), 0 ≤ x := fun x hx => lstN_nonneg n f cpus dist node x (List.mem_filter.1 hx).1
 have hl8 : (inL s (lstN n f cpus dist node)).length ≤ 8 := Nat.le_trans (List.length_filter_le _ _) (lstN_len n f cpus dist node)
 have hbadl : erN n f cpus dist node ≠ 0 → inL s (lstN n f cpus dist node) = [] := fun h => by rw [show lstN n f cpus dist node = [] from if_neg h]; rfl
 have hml := hrm.2.1
 clear hr2 hr3 hrm
 obtain ⟨l, hl⟩ : ∃ l, inL s (lstN n f cpus dist node) = l := ⟨_, rfl⟩
 obtain ⟨er, her⟩ : ∃ er, erN n f cpus dist node = er := ⟨_, rfl⟩
 rw [hl] at HO hl8 hnn hbadl ⊢
 rw [her] at HO hbadl
 clear hl her
 have HNN := ak hnn
 clear hnn
 by_cases he0 : er = 0
 ·subst he0
  clear hbadl
  go_enter Tryz.func111, Tryz.ntmps111
  go_upto_region 4 with (first | (go_at_call 162; (with_reducible refine (HO.1 _ (Kd.C_alloc HR2.1 _) (Kd.C_alloc HR3.1 _)).mono ?_); rintro e_ w2 ⟨v, rfl, hown, hb⟩; have HOW := ak hown; have HB := ak (below_less0 _ _ _ hb); clear hown hb))
  obtain ⟨L, cl, rfl, hri⟩ := own_reads HOW.1
  have HRI := ak hri
  have HRM2 := ak (Kd.C_below HRM.1 HB.1)
  clear hri HOW HRM HR2 HR3 HO
  have H0 := ak (show RelN l may w2 (.int .i64 0) w2 from ⟨0, rfl, Nat.zero_le _, rfl, fun j hj => absurd hj (by omega)⟩)
  go_wp2_with fail
  go_loopw [25, 13] (fun v25 _ wr => RelN l may w2 v25 wr) (fun v25 _ _ => l.length - (intOf v25).toNat)
  case atStart => exact H0.1
  case round =>
   clear H0
   obtain ⟨i, rfl, hi, rfl, hno⟩ := hrel
   have HNO := ak hno
   clear hno
   by_cases hil : i < l.length
   ·have hib : decide (i < l.length) = true := decide_eq_true hil
    have i0 : (0 : Int) ≤ (i : Int) := by omega
    have iI : (i : Int) < (l.length : Int) := by omega
    obtain ⟨ad, rfl, q0⟩ := HRI.1.at_ (i : Int) i0 iI
    rw [Int.toNat_natCast] at q0
    obtain ⟨x, hx⟩ : ∃ x, rd l (i : Int) = x := ⟨_, rfl⟩
    have hx0 : 0 ≤ x := by rw [← hx, rd_at l i hil]; exact HNN.1 _ (List.getElem_mem hil)
    rw [hx] at q0
    have HX := ak hx
    clear hx
    have STEP := ak (show okB may x = false → ∀ j, j < i + 1 → okB may (rd l (j : Int)) = false from fun hh j hj => by
     rcases Nat.lt_or_ge j i with h' | h'
     ·exact HNO.1 j h'
     ·obtain rfl : j = i := by omega
      rw [HX.1]; exact hh)
    by_cases hxm : x < (may.length : Int)
    ·have hxb : decide (x < (may.length : Int)) = true := decide_eq_true hxm
     obtain ⟨ad2, rfl, q1⟩ := Kd.at_bool HRM2.1 x hx0 hxm
     obtain ⟨b, hb⟩ : ∃ b, rdOf false may x = b := ⟨_, rfl⟩
     rw [hb] at q1
     have hok : okB may x = b := by unfold okB; rw [hxb, hb]; rfl
     have HOK := ak hok
     clear hb hok
     cases b with
     | true =>
      have HN := ak (show nearR may l = some x by
       have := near_hit may l i hil HNO.1 (by rw [HX.1]; exact HOK.1)
       rw [HX.1] at this; exact this)
      go_wp2_with fail
      go_ret2
      exact ⟨by rw [HN.1]; rfl, HB.1⟩
     | false =>
      go_wp2_with fail
      go_roundw
      case rel => exact ⟨i + 1, by go_num, by omega, rfl, STEP.out HOK.1⟩
      case measure => simp [intOf]; omega
    ·have hxb : decide (x < (may.length : Int)) = false := decide_eq_false hxm
     have HOK := ak (show okB may x = false by unfold okB; rw [hxb]; rfl)
     go_wp2_with fail
     go_roundw
     case rel => exact ⟨i + 1, by go_num, by omega, rfl, STEP.out HOK.1⟩
     case measure => simp [intOf]; omega
   ·have hib : decide (i < l.length) = false := decide_eq_false hil
    have HN := ak (near_miss may l (fun j hj => HNO.1 j (by omega)))
    go_wp2_with fail
    go_ret2
    exact ⟨by rw [HN.1]; rfl, HB.1⟩
 ·have hne : (er != 0) = true := by simpa using he0
  have HLN := ak (hbadl he0)
  clear he0 hbadl
  go_enter Tryz.func111, Tryz.ntmps111
  go_wp2_with (first | (go_at_call 162; (with_reducible refine (HO.1 _ (Kd.C_alloc HR2.1 _) (Kd.C_alloc HR3.1 _)).mono ?_); rintro e_ w2 ⟨v, rfl, hown, hb⟩; have HB := ak (below_less0 _ _ _ hb); clear hown hb))
  go_ret2
  exact ⟨by rw [HLN.1]; rfl, HB.1⟩
end Go.Proofs.YtenkdmloolbdaaaGreatDoor.TZ
end
section
namespace Go.Proofs.YtenkdmloolbdaaaGreatDoor.TZ
open Go.RowKit Go.Proofs.YtenkdmloolbdaaaGreatDoorW.PrintWords Go.Proofs.YtenkdmloolbdaaaGreatDoorW.PrintLast Go.Proofs.YtenkdmloolbdaaaGreatDoorW.PrintMore Go.Proofs.YtenkdmloolbdaaaGreatDoor.PH
def setL (s : Int) : List Int := inL s [0, 1, 2, 3, 4, 5, 6, 7]
def allS (n : Int) : Int := ((shl .u8 1 n) - 1) % 256
theorem list_all : ∀ s : Nat, s < 256 → nodeset_List.f 20 (s : Int) = some (setL (s : Int)) := by decide +kernel
theorem list_all19 : ∀ s : Nat, s < 256 → nodeset_List.f 19 (s : Int) = some (setL (s : Int)) := by decide +kernel
theorem setL_pos : ∀ s : Nat, s < 256 → 0 < s → 0 < (setL s).length := by decide +kernel
theorem setL_below : ∀ s : Nat, s < 256 → ∀ n : Nat, n < 9 → Go.bits .andNot .u8 (s : Int) (allS n) = 0 → ∀ x ∈ setL s, x < (n : Int) := by decide +kernel
theorem setL_len (s : Int) : (setL s).length ≤ 8 := List.length_filter_le _ _
theorem setL_nonneg (s : Int) : ∀ x ∈ setL s, 0 ≤ x := by
 intro x hx
 have := (List.mem_filter.1 hx).1
 simp at this
 omega
def nextL (l : List Int) (c : Int) : Int × Bool := match l.find? (fun x => decide (x > c)) with
 | some x => (x, true)
 | none => if l.length = 0 then (0, false) else (rd l 0, true)
theorem next_l0 (c : Int) (l : List Int) (hl : l.length ≤ 1000) : ∀ (m i k : Nat), l.length - i = m → i ≤ l.length → m + 1 ≤ k →
 nodeset_Next.l0 k c l l (l.length : Int) (i : Int) = some (match (l.drop i).find? (fun x => decide (x > c)) with | some x => (x, true) | none => if l.length = 0 then (0, false) else (rd l 0, true)) := by
 intro m
 induction m with
 | zero =>
  intro i k h1 h2 h3
  obtain ⟨k, rfl⟩ : ∃ k', k = k' + 1 := ⟨k - 1, by omega⟩
  obtain rfl : i = l.length := by omega
  unfold nodeset_Next.l0
  rw [if_neg (by omega), List.drop_length]
  by_cases h0 : l.length = 0
  ·simp [h0]
  ·rw [if_neg (by omega), if_pos (by omega)]
   simp [h0]
 | succ m ih =>
  intro i k h1 h2 h3
  obtain ⟨k, rfl⟩ : ∃ k', k = k' + 1 := ⟨k - 1, by omega⟩
  have hi : i < l.length := by omega
  unfold nodeset_Next.l0
  rw [if_pos (by omega), if_pos (by omega), if_pos (by omega), List.drop_eq_getElem_cons hi, List.find?_cons]
  have hr : rd l (i : Int) = l[i] := by unfold rd; rw [Int.toNat_natCast, List.getD_eq_getElem?_getD, List.getElem?_eq_getElem hi]; rfl
  rw [hr]
  by_cases hg : l[i] > c
  ·rw [if_pos hg, decide_eq_true hg]
  ·rw [if_neg hg, decide_eq_false hg, show wrap64 ((i : Int) + 1) = ((i + 1 : Nat) : Int) from by rw [wrap_s _ (by omega) (by omega)]; omega]
   exact ih (i + 1) k (by omega) (by omega) (by omega)
theorem next_f (s : Nat) (hs : s < 256) (c : Int) : nodeset_Next.f 20 (s : Int) c = some (nextL (setL s) c) := by
 unfold nodeset_Next.f
 rw [list_all s hs, Option.bind_some]
 have := setL_len s
 exact next_l0 c (setL s) (by omega) _ 0 20 rfl (Nat.zero_le _) (by omega)
theorem next_f19 (s : Nat) (hs : s < 256) (c : Int) : nodeset_Next.f 19 (s : Int) c = some (nextL (setL s) c) := by
 unfold nodeset_Next.f
 rw [list_all19 s hs, Option.bind_some]
 have := setL_len s
 exact next_l0 c (setL s) (by omega) _ 0 19 rfl (Nat.zero_le _) (by omega)
theorem nextL_mem (l : List Int) (c : Int) (h : 0 < l.length) : (nextL l c).1 ∈ l := by
 unfold nextL
 cases hf : l.find? (fun x => decide (x > c)) with
 | some x => exact List.mem_of_find?_eq_some hf
 | none =>
  simp only
  rw [if_neg (by omega)]
  unfold rd
  rw [List.getD_eq_getElem?_getD]
  obtain ⟨a, t, rfl⟩ := List.exists_cons_of_length_pos h
  simp
def polR (m s nd n : Int) : Int := if m = 0 then 0 else if m = 1 ∨ m = 2 then (if s = 0 then 1 else if Go.bits .andNot .u8 s (allS n) = 0 then 0 else 10) else if m = 3 then (if nd < 0 ∨ nd ≥ n then 10 else 0) else 1
def permR (m s n : Int) : Int := if m = 1 then s else allS n
def startR (m s nd own c : Int) : Int × Int := if m = 2 then ((nextL (setL s) c).1, (nextL (setL s) c).1) else if m = 3 then (nd, c) else (own, c)
theorem all_f (n : Nat) (hn : n ≤ 8) : nodeset_All.f (n : Int) = some (allS n, 0) := by
 unfold nodeset_All.f
 rw [if_neg (by omega), if_neg (by omega), if_pos (by omega)]; rfl
theorem pcheck_f (m s nd : Int) (n : Nat) (h1 : 1 ≤ n) (h8 : n ≤ 8) : policy_Check.f 20 m s nd (n : Int) = some (polR m s nd n) := by
 have hsets : policy_sets.f s (n : Int) = some (if s = 0 then 1 else if Go.bits .andNot .u8 s (allS n) = 0 then 0 else 10) := by
  unfold policy_sets.f
  rw [all_f n h8, Option.bind_some]
  simp only [if_true]
  split
  ·rfl
  ·split <;> rfl
 unfold policy_Check.f polR
 rw [if_neg (by omega), decide_eq_false (by omega)]
 simp only [policy_Check.j0, policy_Check.j1, hsets, Option.bind_some]
 by_cases m0 : m = 0
 ·simp [m0]
 ·by_cases m1 : m = 1
  ·simp [m1]
  ·by_cases m2 : m = 2
   ·simp [m2]
   ·by_cases m3 : m = 3
    ·subst m3
     by_cases d0 : nd < 0
     ·simp [d0]
     ·by_cases dn : (n : Int) ≤ nd <;> simp [d0, dn]
    ·have e1 : (m == 1) = false := by simpa using m1
     have e2 : (m == 2) = false := by simpa using m2
     simp [m0, m1, m2, m3]
theorem pperm_f (m s nd : Int) (n : Nat) (h1 : 1 ≤ n) (h8 : n ≤ 8) : policy_Permitted.f 20 m s nd (n : Int) = some (if polR m s nd n = 0 then permR m s n else 0, polR m s nd n) := by
 unfold policy_Permitted.f permR
 rw [pcheck_f m s nd n h1 h8, Option.bind_some, all_f n h8]
 by_cases h0 : polR m s nd n = 0
 ·rw [if_pos h0, if_pos h0]
  by_cases hm : m = 1
  ·simp [hm, ← h0]
  ·simp [hm, h0]
 ·rw [if_neg h0, if_neg h0]
theorem pstart_f (m : Int) (s : Nat) (hs : s < 256) (nd : Int) (n : Nat) (h1 : 1 ≤ n) (h8 : n ≤ 8) (own c : Int) (ho : 0 ≤ own) (hn : own < n) (h0 : polR m s nd n = 0) : policy_Start.f 20 m s nd (n : Int) own c = some ((startR m s nd own c).1, (startR m s nd own c).2, 0) := by
 unfold policy_Start.f startR
 rw [pcheck_f m s nd n h1 h8, Option.bind_some, if_pos h0, if_neg (by omega), decide_eq_false (by omega)]
 simp only [policy_Start.j0, next_f19 s hs c, Option.bind_some]
 have e : decide (own ≥ (n : Int)) = false := decide_eq_false (by omega)
 by_cases m2 : m = 2
 ·simp [m2]
 ·by_cases m3 : m = 3 <;> simp [m2, m3]
theorem start_in (m : Int) (s : Nat) (hs : s < 256) (nd : Int) (n : Nat) (h1 : 1 ≤ n) (h8 : n ≤ 8) (own c : Int) (ho : 0 ≤ own) (hn : own < n) (h0 : polR m s nd n = 0) : 0 ≤ (startR m s nd own c).1 ∧ (startR m s nd own c).1 < n := by
 unfold startR
 unfold polR at h0
 by_cases m2 : m = 2
 ·subst m2
  rw [if_neg (by omega), if_pos (by omega)] at h0
  rw [if_pos rfl]
  have hs0 : ¬ ((s : Int) = 0) := by intro e; rw [if_pos e] at h0; omega
  rw [if_neg hs0] at h0
  have hb : Go.bits .andNot .u8 (s : Int) (allS n) = 0 := by
   by_cases hb : Go.bits .andNot .u8 (s : Int) (allS n) = 0
   ·exact hb
   ·rw [if_neg hb] at h0; omega
  have hmem := nextL_mem (setL s) c (setL_pos s hs (by omega))
  exact ⟨setL_nonneg _ _ hmem, setL_below s hs n (by omega) hb _ hmem⟩
 ·rw [if_neg m2]
  by_cases m3 : m = 3
  ·subst m3
   rw [if_neg (by omega), if_neg (by omega), if_pos rfl] at h0
   rw [if_pos rfl]
   by_cases hx : nd < 0 ∨ nd ≥ n
   ·rw [if_pos hx] at h0; omega
   ·simp only; omega
  ·rw [if_neg m3]; exact ⟨ho, hn⟩
end Go.Proofs.YtenkdmloolbdaaaGreatDoor.TZ
end
